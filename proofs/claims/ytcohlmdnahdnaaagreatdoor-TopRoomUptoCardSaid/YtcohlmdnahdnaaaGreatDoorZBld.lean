/- A package's, a project's wants: the program's walks. -/
import Derived.Lib.AppendStr
import Derived.Laws.Externs
import Derived.Test.YtcohlmdnahdnaaaGreatDoorZCatM
import Derived.Test.YtcohlmdnahdnaaaGreatDoorZTopW4
namespace Go.Proofs.YtcohlmdnahdnaaaGreatDoor
open Go.RowKit
set_option linter.unusedVariables false
set_option linter.unusedSimpArgs false
set_option maxHeartbeats 16000000
set_option maxRecDepth 100000
section
open Top
namespace Top
structure MustAt(w:World)(B:Nat)(v:Value)(ls:List (List Dp)):Prop where
 is:∃vs:List Value,vs.length=ls.length/\RowZ 1 w B v (vs.map fun x=>[x])/\∀(i:Nat) (l:List Dp) (u:Value),ls[i]? =some l->vs[i]? =some u->DpsAt w B u l
theorem MustAt.form{w:World}{B:Nat}{v:Value}{ls:List (List Dp)}(h:MustAt w B v ls):∃a cap,v=.slice a ls.length cap:=by
 obtain⟨vs,h1,h2,_⟩:=h.is;obtain⟨a,cap,e⟩:=h2.form;exact⟨a,cap,by rw[e,lM,h1]⟩
theorem MustAt.at{w:World}{B:Nat}{v:Value}{ls:List (List Dp)}(h:MustAt w B v ls)(hn:0<ls.length):∃bk o cap,v=.slice (some ⟨bk,o,none⟩) ls.length cap/\bk<B/\∀(i:Nat) (l:List Dp),ls[i]? =some l->∃a c,DpsAt w B (.slice a l.length c) l/\w.cell? ⟨bk,o+i,none⟩=some (.slice a l.length c):=by
 obtain⟨vs,h1,h2,h3⟩:=h.is;obtain⟨bk,o,cap,e,hc,hB,hu⟩:=h2.some (by simp;omega);rw[lM,h1]at e;refine⟨bk,o,cap,e,hB,fun i l hl=>?_⟩;have hi:=(gS hl).1;have hv:vs[i]? =some (vs[i]'(by omega)):=gE (by omega);have hd:=h3 i l _ hl hv;obtain⟨a,c,e2⟩:=hd.form;have:=hu i [vs[i]'(by omega)] (by rw[gM,hv];rfl) 0 _ rfl;rw[e2]at hd this;rw[Nat.mul_one,Nat.add_zero]at this;exact⟨a,c,hd,this⟩
def Fp(m:Mf)(k:Int)(d:Dp):Wt:=⟨d.name,k,aQ m d⟩
def iQ(w0:World)(l:List Wt)(e:Ending)(w':World):Prop:=∃a c,e=.returned (.slice a l.length c)/\WtsI w' w0.heap.size w'.heap.size (.slice a l.length c) l/\Below w0.heap.size w0 w'
theorem Sn:(Tryz.prog.info? 69).map (fun i=>(i.zero,i.size,i.bytes))=some (some (.agg #[.string ByteArray.empty,.int .i64 0,.slice none 0 0]),3,48):=by kernel_rfl
theorem rV{ls:List (List Dp)}{i:Nat}{l:List Dp}(h:ls[i]? =some l):(ls.take (i+1)).flatten=(ls.take i).flatten++l:=by
 rw[List.take_add_one,h,List.flatten_append];simp
theorem Av{m:Mf}{c:Int}{L:List tT}{Q:List Wt}{l:List Dp}{k:Nat}{d:Dp}{ac:Option Addr×Nat}(h:L.map (·.1)=Q++(l.take k).map (Fp m c))(hd:l[k]? =some d):(L++[(Fp m c d,ac)]).map (·.1)=Q++(l.take (k+1)).map (Fp m c):=by
 rw[List.map_append,h,List.take_add_one,hd,List.map_append,List.append_assoc];rfl
end Top
theorem Ga(w:World)(m:Mf)(v1 v2 v3 v4:Value)(hm:MfAt w w.heap.size m v1 v2 v3 v4)(hz:Bt m)(ls:List (List Dp))(vm:Value)(hmu:MustAt w w.heap.size vm ls)(hls:ls.length<=2)(hlz:∀l∈ls,jK l)(may:List Dp)(v5:Value)(h5:DpsAt w w.heap.size v5 may)(h5z:jK may):
 Calls Tryz.prog 51 #[tX v1 v2 v3 v4,vm,v5] w fun e w'=>iQ w (iP m ls may) e w':=by
 obtain⟨i0,hi,ha0,ha1,ha2⟩:=info_parts Sn;obtain⟨a1,c1,hv1⟩:=hm.deps.form;obtain⟨a2,c2,hv2⟩:=hm.dev.form;obtain⟨a3,c3,hv3⟩:=hm.opts.form;obtain⟨a4,c4,hv4⟩:=hm.over.form;obtain⟨a5,c5,hv5⟩:=h5.form;obtain⟨am,cm,hvm⟩:=hmu.form;obtain⟨n1,hn1⟩:=ex (m.deps.length);obtain⟨n2,hn2⟩:=ex (m.dev.length);obtain⟨n3,hn3⟩:=ex (m.opts.length);obtain⟨n4,hn4⟩:=ex (m.over.length);obtain⟨N5,hn5⟩:=ex (may.length);obtain⟨Z,hnZ⟩:=ex (ls.length);rw[<-hn1]at hv1;rw[<-hn2]at hv2;rw[<-hn3]at hv3;rw[<-hn4]at hv4;rw[<-hn5]at hv5;rw[<-hnZ]at hvm hls;have hover:=hm.over;subst hv1 hv2 hv3 hv4 hv5 hvm;have HOV:=Hd hover;have HZM:=Hd hz;have HMU:=Hd hmu;have HLZ:=Hd hlz;have HM5:=Hd h5;have HM5Z:=Hd h5z;have HM5N:=Hd hn5;have HZN:=Hd hnZ;have hN5:N5<=1000000:=by rw[hn5];exact h5z.1
 obtain⟨wb,hwb⟩:=ex (w.alloc (.cells #[.slice a1 n1 c1,.slice a2 n2 c2,.slice a3 n3 c3,.slice a4 n4 c4] 25));have hsb:wb.heap.size=w.heap.size+1:=by rw[hwb];simp
 have hmb:∀W,Below (w.heap.size+1) wb W->W.cell? ⟨w.heap.size,0,none⟩=some (.slice a1 n1 c1)/\W.cell? ⟨w.heap.size,1,none⟩=some (.slice a2 n2 c2)/\W.cell? ⟨w.heap.size,2,none⟩=some (.slice a3 n3 c3)/\W.cell? ⟨w.heap.size,3,none⟩=some (.slice a4 n4 c4):=fun W hW=>
  ⟨(hW.cell (p:=⟨w.heap.size,0,none⟩) (by show w.heap.size<_;omega)).trans (by rw[hwb];exact aB rfl rfl),(hW.cell (p:=⟨w.heap.size,1,none⟩) (by show w.heap.size<_;omega)).trans (by rw[hwb];exact aB rfl rfl),(hW.cell (p:=⟨w.heap.size,2,none⟩) (by show w.heap.size<_;omega)).trans (by rw[hwb];exact aB rfl rfl),(hW.cell (p:=⟨w.heap.size,3,none⟩) (by show w.heap.size<_;omega)).trans (by rw[hwb];exact aB rfl rfl)⟩
 have hbb:∀W,Below (w.heap.size+1) wb W->Below w.heap.size w W:=fun W hW=>by
  have h0:Below w.heap.size w wb:=by rw[hwb];exact(bR _ w).alloc nL _
  exact h0.trans (hW.mono (by omega))
 have hwz:∀W,Below (w.heap.size+1) wb W->w.heap.size+1<=W.heap.size:=fun W hW=>by have:=hW.size;omega
 have HMB:=Hd hmb;have HBB:=Hd hbb;have HWZ:=Hd hwz;have HSB:=Hd hsb;have HWB:=Hd hwb;obtain⟨mayL,hmayL⟩:=ex (may);clear hm hz hmu hlz h5 h5z hn1 hn2 hn3 hn4 hn5 hnZ hover hwb hmb hbb hwz hsb;unfold tX;go_enter Tryz.func51,Tryz.ntmps51;go_wp2;go_loopw [16,7] (fun p s wr=>∃(i q:Nat) (ao:Option Addr) (co:Nat) (L:List tT),p=.int .i64 i/\s=.slice ao q co/\i<=Z/\q=L.length/\(q:Int)<=(i:Int)*1000000/\L.map (·.1)=((ls.take i).flatten).map (Fp m 1)/\WtsOwn wr (w.heap.size+1) (.slice ao q co) L/\Below (w.heap.size+1) wb wr) (fun p _ _=>Z-(intOf p).toNat);case atStart=>exact⟨0,0,none,0,[],rfl,rfl,Nat.zero_le _,rfl,by simp,by simp,WtsOwn.nil _ _,by rw[<-HWB.out];exact bR _ _⟩
 case round=>
  obtain⟨i,q,ao,co,L,rfl,rfl,hiZ,hq,hq2,hL,hown,hbo⟩:=hrel;have HQL:=Hd hq;have HLL:=Hd hL;have HOWN:=Hd hown;have HBO:=Hd hbo;clear hq hL hown;by_cases hi2:i<Z
  ·obtain⟨l,hl⟩:∃x,ls[i]? =some x:=⟨_,gE (by have:=HZN.out;omega)⟩;obtain⟨bkm,om,capm,hvem,hbkm,hatm⟩:=HMU.out.at (by have:=HZN.out;omega);rw[<-HZN.out]at hvem;cases hvem;obtain⟨la,lc,hdl,el⟩:=hatm i l hl;have el:=((HBB.out _ hbo).cell (p:=⟨bkm,om+i,none⟩) hbkm).trans el;obtain⟨N,hN⟩:=ex (l.length);rw[<-hN]at hdl el;have hlz:=HLZ.out l (mG hl);have HRW:=Hd hdl;have HRWN:=Hd hN;have HRWZ:=Hd hlz;have hNs:N<=1000000:=by rw[hN];exact hlz.1
   have HLI:=Hd hl;have HQ0:Hid (q=L.length):=HQL;clear hatm hl hdl hN hlz;have hqi:(q:Int)<=(i:Int)*1000000:=hq2;go_wp2;go_loopw [22,7] (fun p s wr=>∃(k q:Nat) (ao:Option Addr) (co:Nat) (L:List tT),p=.int .i64 k/\s=.slice ao q co/\k<=N/\q=L.length/\(q:Int)<=(i:Int)*1000000+k/\L.map (·.1)=((ls.take i).flatten).map (Fp m 1)++(l.take k).map (Fp m 1)/\WtsOwn wr (w.heap.size+1) (.slice ao q co) L/\Below (w.heap.size+1) wb wr) (fun p _ _=>N-(intOf p).toNat);case atStart=>exact⟨0,q,ao,co,L,rfl,rfl,by omega,HQL.out,by omega,by rw[HLL.out];simp,HOWN.out,hbo⟩
   case round=>
    clear HOWN HQL HLL HBO hq2 el HQ0 hqi hbo;obtain⟨wo,rfl⟩:∃y,y=wr:=⟨wr,rfl⟩;obtain⟨k,q,ao,co,L,rfl,rfl,hkN,hq,hq2,hL,hown,hbo⟩:=hrel;have HQL:=Hd hq;have HLL:=Hd hL;have HOWN:=Hd hown;have HBO:=Hd hbo;have hb:=HBB.out _ hbo;clear hq hL hown;by_cases hk2:k<N
    ·obtain⟨x,hx⟩:∃x,l[k]? =some x:=⟨_,gE (by have:=HRWN.out;omega)⟩;obtain⟨bk,o,cap,hve,hcap,hbk,hat⟩:=HRW.out.at (by have:=HRWN.out;omega);rw[<-HRWN.out]at hve;cases hve;obtain⟨ra,rc,hrg,e0,e1⟩:=hat k x hx;have hzx:=HRWZ.out.2 x (mG hx);have e0:=(hb.cell (p:=⟨bk,o+k*2,none⟩) hbk).trans e0;have e1:=(hb.cell (p:=⟨bk,o+k*2+1,none⟩) hbk).trans e1;have hbsz:=hb.size;obtain⟨nm,rg⟩:=x;dsimp only at hrg e0 e1 hzx;unfold sv at e0;obtain⟨M,hM⟩:=ex (rg.length);rw[<-hM]at hrg e1 hzx;have HMM:=Hd hM;have HX:=Hd hx;obtain⟨M',hM'⟩:∃M',M'=(aQ m ⟨nm,rg⟩).length:=⟨_,rfl⟩;have HM':=Hd hM';have hM1:M'<=1000000:=by rw[hM'];exact jP HZM.out.2.2.2 (by rw[<-hM];exact hzx)
     have hz1:=HWZ.out _ hbo;have hwz:(wo.alloc (.cells #[.string (bs nm),.slice ra M rc] 75)).drew.heap.size=wo.heap.size+1:=Array.size_push ..;have hbA:Below wo.heap.size wo (wo.alloc (.cells #[.string (bs nm),.slice ra M rc] 75)).drew:=((bR _ wo).alloc nL _).drew;have hmb:=HMB.out _ hbo;have kA:(wo.alloc (.cells #[.string (bs nm),.slice ra M rc] 75)).drew.cell? ⟨wo.heap.size,0,none⟩=some (.string (bs nm))/\(wo.alloc (.cells #[.string (bs nm),.slice ra M rc] 75)).drew.cell? ⟨wo.heap.size,1,none⟩=some (.slice ra M rc)/\(wo.alloc (.cells #[.string (bs nm),.slice ra M rc] 75)).drew.cell? ⟨w.heap.size,0,none⟩=some (.slice a1 n1 c1)/\(wo.alloc (.cells #[.string (bs nm),.slice ra M rc] 75)).drew.cell? ⟨w.heap.size,1,none⟩=some (.slice a2 n2 c2)/\(wo.alloc (.cells #[.string (bs nm),.slice ra M rc] 75)).drew.cell? ⟨w.heap.size,2,none⟩=some (.slice a3 n3 c3)/\(wo.alloc (.cells #[.string (bs nm),.slice ra M rc] 75)).drew.cell? ⟨w.heap.size,3,none⟩=some (.slice a4 n4 c4):=
      ⟨aB rfl rfl,aB rfl rfl,(aD (by show w.heap.size<_;omega)).trans hmb.1,(aD (by show w.heap.size<_;omega)).trans hmb.2.1,(aD (by show w.heap.size<_;omega)).trans hmb.2.2.1,(aD (by show w.heap.size<_;omega)).trans hmb.2.2.2⟩
     have HCL:Hid (Calls Tryz.prog 99 #[.agg #[.slice a1 n1 c1,.slice a2 n2 c2,.slice a3 n3 c3,.slice a4 n4 c4],.agg #[.string (bs nm),.slice ra M rc]] (wo.alloc (.cells #[.string (bs nm),.slice ra M rc] 75)).drew fun e w'=>∃a' c',e=.returned (.slice a' M' c')/\w'.ownsRow (w.heap.size+1) 73 6 (.slice a' M' c') M' ((aQ m ⟨nm,rg⟩).map aU).flatten/\Below (wo.alloc (.cells #[.string (bs nm),.slice ra M rc] 75)).drew.heap.size (wo.alloc (.cells #[.string (bs nm),.slice ra M rc] 75)).drew w'):=Hd (by
      have hw:=hb.trans (hbA.mono hbsz);have:=rF (wo.alloc (.cells #[.string (bs nm),.slice ra M rc] 75)).drew m (.slice a1 n1 c1) (.slice a2 n2 c2) (.slice a3 n3 c3) (.slice a4 n4 c4) ((HOV.out.below hw nL).mono hw.size) HZM.out.2.2.2 ⟨nm,rg⟩ ra rc (by rw[<-hM];exact(RowZ.below hrg hw nL).mono hw.size) (by rw[<-hM];exact hzx) rfl rfl rfl;rw[<-hM]at this;refine this.mono fun e w' h=>?_;obtain⟨a',c',h1,h2,h3⟩:=h;rw[<-hM']at h1 h2;exact⟨a',c',h1,dI h2 (by omega),h3⟩)
     have HBA:=Hd hbA;have HWZ1:=Hd hwz;clear hx hat hM hM' hcap hrg hbA hmb hwz;go_wp2;refine rG (fun w'=>w'.cell? ⟨wo.heap.size,0,none⟩=some (.string (bs nm))/\w'.cell? ⟨wo.heap.size,1,none⟩=some (.slice ra M rc)/\w'.cell? ⟨w.heap.size,0,none⟩=some (.slice a1 n1 c1)/\w'.cell? ⟨w.heap.size,1,none⟩=some (.slice a2 n2 c2)/\w'.cell? ⟨w.heap.size,2,none⟩=some (.slice a3 n3 c3)/\w'.cell? ⟨w.heap.size,3,none⟩=some (.slice a4 n4 c4)) kA fun hU=>?_;refine aM [0,1,2,3,4] ?_;refine rd 5 fun K hK=>?_;go_simp;go_at_call 99;refine HCL.out.mono ?_;rintro e wc ⟨a',c',rfl,hownc,hbc⟩;have hzc:=hbc.size;have hwz:=HWZ1.out;have hz1:=HWZ.out _ hbo;have kC:wc.cell? ⟨wo.heap.size,0,none⟩=some (.string (bs nm))/\wc.cell? ⟨wo.heap.size,1,none⟩=some (.slice ra M rc)/\wc.cell? ⟨w.heap.size,0,none⟩=some (.slice a1 n1 c1)/\wc.cell? ⟨w.heap.size,1,none⟩=some (.slice a2 n2 c2)/\wc.cell? ⟨w.heap.size,2,none⟩=some (.slice a3 n3 c3)/\wc.cell? ⟨w.heap.size,3,none⟩=some (.slice a4 n4 c4):=⟨(hbc.cell (p:=⟨wo.heap.size,0,none⟩) (by show wo.heap.size<_;omega)).trans kA.1,(hbc.cell (p:=⟨wo.heap.size,1,none⟩) (by show wo.heap.size<_;omega)).trans kA.2.1,(hbc.cell (p:=⟨w.heap.size,0,none⟩) (by show w.heap.size<_;omega)).trans kA.2.2.1,(hbc.cell (p:=⟨w.heap.size,1,none⟩) (by show w.heap.size<_;omega)).trans kA.2.2.2.1,(hbc.cell (p:=⟨w.heap.size,2,none⟩) (by show w.heap.size<_;omega)).trans kA.2.2.2.2.1,(hbc.cell (p:=⟨w.heap.size,3,none⟩) (by show w.heap.size<_;omega)).trans kA.2.2.2.2.2⟩
     have HOC:=Hd hownc;have HBC:Hid (Below wo.heap.size wo wc):=Hd (HBA.out.trans (hbc.mono (by omega)));have HDO:=Hd (HOWN.out.below HBC.out);have HZC:Hid (wo.heap.size+1<=wc.heap.size):=Hd (by omega);clear hownc hbc hzc hwz;have kD:∀ob,(wc.alloc ob).cell? ⟨wo.heap.size,0,none⟩=some (.string (bs nm))/\(wc.alloc ob).cell? ⟨wo.heap.size,1,none⟩=some (.slice ra M rc)/\(wc.alloc ob).cell? ⟨w.heap.size,0,none⟩=some (.slice a1 n1 c1)/\(wc.alloc ob).cell? ⟨w.heap.size,1,none⟩=some (.slice a2 n2 c2)/\(wc.alloc ob).cell? ⟨w.heap.size,2,none⟩=some (.slice a3 n3 c3)/\(wc.alloc ob).cell? ⟨w.heap.size,3,none⟩=some (.slice a4 n4 c4):=fun ob=>by
      have:=HZC.out;exact⟨(aD (by show wo.heap.size<_;omega)).trans kC.1,(aD (by show wo.heap.size<_;omega)).trans kC.2.1,(aD (by show w.heap.size<_;omega)).trans kC.2.2.1,(aD (by show w.heap.size<_;omega)).trans kC.2.2.2.1,(aD (by show w.heap.size<_;omega)).trans kC.2.2.2.2.1,(aD (by show w.heap.size<_;omega)).trans kC.2.2.2.2.2⟩
     refine hK.out _ _ (kC) fun hU=>?_;clear hK K;refine aM [6] ?_;refine rd 7 fun K hK=>?_;go_simp;refine hK.out _ _ (kD _) fun hU=>?_;clear hK K;(try simp only[lay]);refine rd 8 fun K hK=>?_;obtain⟨wd,hwd⟩:=ex (wc.alloc (.cells #[.string (bs nm),.int .i64 1,.slice a' M' c'] 69));have HDD:Hid (WtsOwn wd (w.heap.size+1) (.slice ao q co) L):=Hd (by rw[hwd];exact HDO.out.below ((bR _ wc).alloc nL _));have HOD:Hid (wd.ownsRow (w.heap.size+1) 73 6 (.slice a' M' c') M' ((aQ m ⟨nm,rg⟩).map aU).flatten):=Hd (by rw[hwd];exact HOC.out.alloc _);have HNB:Hid (wd.heap[wc.heap.size]? =some (.cells #[.string (bs nm),.int .i64 1,.slice a' M' c'] 69 (0,0))):=Hd (by rw[hwd];exact heap_alloc_new wc _);have HSD:Hid (wd.heap.size=wc.heap.size+1):=Hd (by rw[hwd];exact sA _ _);have HBD:Hid (Below wo.heap.size wo wd):=Hd (by rw[hwd];exact HBC.out.alloc HBC.out.size _)
     have kW:wd.cell? ⟨wo.heap.size,0,none⟩=some (.string (bs nm))/\wd.cell? ⟨wo.heap.size,1,none⟩=some (.slice ra M rc)/\wd.cell? ⟨w.heap.size,0,none⟩=some (.slice a1 n1 c1)/\wd.cell? ⟨w.heap.size,1,none⟩=some (.slice a2 n2 c2)/\wd.cell? ⟨w.heap.size,2,none⟩=some (.slice a3 n3 c3)/\wd.cell? ⟨w.heap.size,3,none⟩=some (.slice a4 n4 c4):=by rw[hwd];exact kD _
     have hrow:=HDD.out.row;rw[<-HQL.out]at hrow;have HROW:=Hd hrow;have HWD:=Hd hwd;clear hwd hrow;rw[<-HWD.out];refine step_append_lies wd (by rfl) _ _ _ (by rfl) (w.heap.size+1) 69 i0 (.agg #[.string ByteArray.empty,.int .i64 0,.slice none 0 0]) 3 48 Tryz.underlying60 hi ha0 ha1 ha2 rfl (by decide) (.slice ao q co) q _ (by rfl) HROW.out ⟨wc.heap.size,0,none⟩ 1 1 [.string (bs nm),.int .i64 1,.slice a' M' c'] (by rfl) (by rfl) (World.news_of_block (cs:=#[.string (bs nm),.int .i64 1,.slice a' M' c']) (t:=69) (fr:=(0,0)) HNB.out) (by simp[Value.oneCell']) (by omega) (by unfold maxLen;omega) (by omega) (by have:=HSD.out;have:=HZC.out;omega) (wc.heap.size+1) HSD.out ?_;intro gn cn w4 hown4 hgrow4 hat4 hlt4;have hne:some wo.heap.size≠(Value.slice ao q co).ownBlock:=fun e=>by have:=(HOWN.out.row.lt wo.heap.size e.symm).2;omega
     have hne2:some w.heap.size≠(Value.slice ao q co).ownBlock:=fun e=>by have:=(HOWN.out.row.lt w.heap.size e.symm).1;omega
     have kE:w4.cell? ⟨wo.heap.size,0,none⟩=some (.string (bs nm))/\w4.cell? ⟨wo.heap.size,1,none⟩=some (.slice ra M rc)/\w4.cell? ⟨w.heap.size,0,none⟩=some (.slice a1 n1 c1)/\w4.cell? ⟨w.heap.size,1,none⟩=some (.slice a2 n2 c2)/\w4.cell? ⟨w.heap.size,2,none⟩=some (.slice a3 n3 c3)/\w4.cell? ⟨w.heap.size,3,none⟩=some (.slice a4 n4 c4):=by
      have:=HSD.out;have:=HZC.out;exact⟨(hgrow4.cell_far ⟨wo.heap.size,0,none⟩ (by show wo.heap.size<_;omega) hne).trans kW.1,(hgrow4.cell_far ⟨wo.heap.size,1,none⟩ (by show wo.heap.size<_;omega) hne).trans kW.2.1,(hgrow4.cell_far ⟨w.heap.size,0,none⟩ (by show w.heap.size<_;omega) hne2).trans kW.2.2.1,(hgrow4.cell_far ⟨w.heap.size,1,none⟩ (by show w.heap.size<_;omega) hne2).trans kW.2.2.2.1,(hgrow4.cell_far ⟨w.heap.size,2,none⟩ (by show w.heap.size<_;omega) hne2).trans kW.2.2.2.2.1,(hgrow4.cell_far ⟨w.heap.size,3,none⟩ (by show w.heap.size<_;omega) hne2).trans kW.2.2.2.2.2⟩
     have HO4:=Hd hown4;have HGR4:=Hd hgrow4;clear hown4 hgrow4 hat4;refine hK.out _ _ (kE) fun hU=>?_;clear hK K;refine aM [9] ?_;refine dN ?_;have HNXT:Hid (WtsOwn w4 (w.heap.size+1) (.slice (some ⟨gn,0,none⟩) (q+1) cn) (L++[(⟨nm,1,aQ m ⟨nm,rg⟩⟩,(a',c'))])):=Hd (by
      refine HDD.out.add (p:=(⟨nm,1,aQ m ⟨nm,rg⟩⟩,(a',c'))) HGR4.out ?_ ?_
      ·rw[<-HQL.out];unfold gP;dsimp only;rw[<-HM'.out];exact HO4.out
      ·dsimp only;rw[<-HM'.out];exact HOD.out.kept HGR4.out (aJ HOD.out HDD.out.row (by decide)))
     have HB4:Hid (Below (w.heap.size+1) wb w4):=Hd ((HBO.out.trans (HBD.out.mono (by omega))).grown HGR4.out (by have:=HSD.out;have:=HZC.out;have:=HSB.out;omega) (fun g hg=>(HROW.out.lt g hg).1));have HL4:Hid ((L++[((⟨nm,1,aQ m ⟨nm,rg⟩⟩:Wt),(a',c'))]).map (·.1)=((ls.take i).flatten).map (Fp m 1)++(l.take (k+1)).map (Fp m 1)):=Hd (Av (d:=⟨nm,rg⟩) HLL.out HX.out);clear kA kC kD kE kW;go_wp2;go_roundw;case rel=>exact⟨k+1,q+1,some ⟨gn,0,none⟩,cn,_,by go_num,rfl,by omega,by have:=HQL.out;simp;omega,by omega,HL4.out,HNXT.out,HB4.out⟩
     case measure=>simp[intOf];omega
    ·have HNX:Hid (L.map (·.1)=((ls.take (i+1)).flatten).map (Fp m 1)):=Hd (by
      have e:l.take k=l:=List.take_of_length_le (by have:=HRWN.out;omega);rw[HLL.out,rV HLI.out,List.map_append,e])
     go_wp2;go_roundw;case rel=>exact⟨i+1,q,ao,co,L,by go_num,rfl,by omega,HQL.out,by omega,HNX.out,HOWN.out,hbo⟩
     case measure=>simp[intOf];omega
  ·have HLT:Hid (L.map (·.1)=(ls.flatten).map (Fp m 1)):=Hd (by
    rw[HLL.out,List.take_of_length_le (by have:=HZN.out;omega)])
   have hqi:q<=2000000:=by omega
   go_wp2;go_loopw [39,7] (fun p s wr=>∃(k q:Nat) (ao:Option Addr) (co:Nat) (L:List tT),p=.int .i64 k/\s=.slice ao q co/\k<=N5/\q=L.length/\q<=2000000+k/\L.map (·.1)=(ls.flatten).map (Fp m 1)++(mayL.take k).map (Fp m 2)/\WtsOwn wr (w.heap.size+1) (.slice ao q co) L/\Below (w.heap.size+1) wb wr) (fun p _ _=>N5-(intOf p).toNat);case atStart=>exact⟨0,q,ao,co,L,rfl,rfl,by omega,HQL.out,by omega,by rw[HLT.out];simp,HOWN.out,hbo⟩
   case round=>
    clear HOWN HQL HLL HBO hq2 HLT hqi hbo;obtain⟨wo,rfl⟩:∃y,y=wr:=⟨wr,rfl⟩;obtain⟨k,q,ao,co,L,rfl,rfl,hkN,hq,hq2,hL,hown,hbo⟩:=hrel;have HQL:=Hd hq;have HLL:=Hd hL;have HOWN:=Hd hown;have HBO:=Hd hbo;have hb:=HBB.out _ hbo;clear hq hL hown;by_cases hk2:k<N5
    ·obtain⟨x,hx⟩:∃x,may[k]? =some x:=⟨_,gE (by have:=HM5N.out;omega)⟩;obtain⟨bk,o,cap,hve,hcap,hbk,hat⟩:=HM5.out.at (by have:=HM5N.out;omega);rw[<-HM5N.out]at hve;cases hve;obtain⟨ra,rc,hrg,e0,e1⟩:=hat k x hx;have hzx:=HM5Z.out.2 x (mG hx);have e0:=(hb.cell (p:=⟨bk,o+k*2,none⟩) hbk).trans e0;have e1:=(hb.cell (p:=⟨bk,o+k*2+1,none⟩) hbk).trans e1;have hbsz:=hb.size;obtain⟨nm,rg⟩:=x;dsimp only at hrg e0 e1 hzx;unfold sv at e0;obtain⟨M,hM⟩:=ex (rg.length);rw[<-hM]at hrg e1 hzx;have HMM:=Hd hM;have HX:=Hd hx;obtain⟨M',hM'⟩:∃M',M'=(aQ m ⟨nm,rg⟩).length:=⟨_,rfl⟩;have HM':=Hd hM';have hM1:M'<=1000000:=by rw[hM'];exact jP HZM.out.2.2.2 (by rw[<-hM];exact hzx)
     have hz1:=HWZ.out _ hbo;have hwz:(wo.alloc (.cells #[.string (bs nm),.slice ra M rc] 75)).drew.heap.size=wo.heap.size+1:=Array.size_push ..;have hbA:Below wo.heap.size wo (wo.alloc (.cells #[.string (bs nm),.slice ra M rc] 75)).drew:=((bR _ wo).alloc nL _).drew;have hmb:=HMB.out _ hbo;have kA:(wo.alloc (.cells #[.string (bs nm),.slice ra M rc] 75)).drew.cell? ⟨wo.heap.size,0,none⟩=some (.string (bs nm))/\(wo.alloc (.cells #[.string (bs nm),.slice ra M rc] 75)).drew.cell? ⟨wo.heap.size,1,none⟩=some (.slice ra M rc)/\(wo.alloc (.cells #[.string (bs nm),.slice ra M rc] 75)).drew.cell? ⟨w.heap.size,0,none⟩=some (.slice a1 n1 c1)/\(wo.alloc (.cells #[.string (bs nm),.slice ra M rc] 75)).drew.cell? ⟨w.heap.size,1,none⟩=some (.slice a2 n2 c2)/\(wo.alloc (.cells #[.string (bs nm),.slice ra M rc] 75)).drew.cell? ⟨w.heap.size,2,none⟩=some (.slice a3 n3 c3)/\(wo.alloc (.cells #[.string (bs nm),.slice ra M rc] 75)).drew.cell? ⟨w.heap.size,3,none⟩=some (.slice a4 n4 c4):=
      ⟨aB rfl rfl,aB rfl rfl,(aD (by show w.heap.size<_;omega)).trans hmb.1,(aD (by show w.heap.size<_;omega)).trans hmb.2.1,(aD (by show w.heap.size<_;omega)).trans hmb.2.2.1,(aD (by show w.heap.size<_;omega)).trans hmb.2.2.2⟩
     have HCL:Hid (Calls Tryz.prog 99 #[.agg #[.slice a1 n1 c1,.slice a2 n2 c2,.slice a3 n3 c3,.slice a4 n4 c4],.agg #[.string (bs nm),.slice ra M rc]] (wo.alloc (.cells #[.string (bs nm),.slice ra M rc] 75)).drew fun e w'=>∃a' c',e=.returned (.slice a' M' c')/\w'.ownsRow (w.heap.size+1) 73 6 (.slice a' M' c') M' ((aQ m ⟨nm,rg⟩).map aU).flatten/\Below (wo.alloc (.cells #[.string (bs nm),.slice ra M rc] 75)).drew.heap.size (wo.alloc (.cells #[.string (bs nm),.slice ra M rc] 75)).drew w'):=Hd (by
      have hw:=hb.trans (hbA.mono hbsz);have:=rF (wo.alloc (.cells #[.string (bs nm),.slice ra M rc] 75)).drew m (.slice a1 n1 c1) (.slice a2 n2 c2) (.slice a3 n3 c3) (.slice a4 n4 c4) ((HOV.out.below hw nL).mono hw.size) HZM.out.2.2.2 ⟨nm,rg⟩ ra rc (by rw[<-hM];exact(RowZ.below hrg hw nL).mono hw.size) (by rw[<-hM];exact hzx) rfl rfl rfl;rw[<-hM]at this;refine this.mono fun e w' h=>?_;obtain⟨a',c',h1,h2,h3⟩:=h;rw[<-hM']at h1 h2;exact⟨a',c',h1,dI h2 (by omega),h3⟩)
     have HBA:=Hd hbA;have HWZ1:=Hd hwz;clear hx hat hM hM' hcap hrg hbA hmb hwz;go_wp2;refine rG (fun w'=>w'.cell? ⟨wo.heap.size,0,none⟩=some (.string (bs nm))/\w'.cell? ⟨wo.heap.size,1,none⟩=some (.slice ra M rc)/\w'.cell? ⟨w.heap.size,0,none⟩=some (.slice a1 n1 c1)/\w'.cell? ⟨w.heap.size,1,none⟩=some (.slice a2 n2 c2)/\w'.cell? ⟨w.heap.size,2,none⟩=some (.slice a3 n3 c3)/\w'.cell? ⟨w.heap.size,3,none⟩=some (.slice a4 n4 c4)) kA fun hU=>?_;refine aM [0,1,2,3,4] ?_;refine rd 5 fun K hK=>?_;go_simp;go_at_call 99;refine HCL.out.mono ?_;rintro e wc ⟨a',c',rfl,hownc,hbc⟩;have hzc:=hbc.size;have hwz:=HWZ1.out;have hz1:=HWZ.out _ hbo;have kC:wc.cell? ⟨wo.heap.size,0,none⟩=some (.string (bs nm))/\wc.cell? ⟨wo.heap.size,1,none⟩=some (.slice ra M rc)/\wc.cell? ⟨w.heap.size,0,none⟩=some (.slice a1 n1 c1)/\wc.cell? ⟨w.heap.size,1,none⟩=some (.slice a2 n2 c2)/\wc.cell? ⟨w.heap.size,2,none⟩=some (.slice a3 n3 c3)/\wc.cell? ⟨w.heap.size,3,none⟩=some (.slice a4 n4 c4):=⟨(hbc.cell (p:=⟨wo.heap.size,0,none⟩) (by show wo.heap.size<_;omega)).trans kA.1,(hbc.cell (p:=⟨wo.heap.size,1,none⟩) (by show wo.heap.size<_;omega)).trans kA.2.1,(hbc.cell (p:=⟨w.heap.size,0,none⟩) (by show w.heap.size<_;omega)).trans kA.2.2.1,(hbc.cell (p:=⟨w.heap.size,1,none⟩) (by show w.heap.size<_;omega)).trans kA.2.2.2.1,(hbc.cell (p:=⟨w.heap.size,2,none⟩) (by show w.heap.size<_;omega)).trans kA.2.2.2.2.1,(hbc.cell (p:=⟨w.heap.size,3,none⟩) (by show w.heap.size<_;omega)).trans kA.2.2.2.2.2⟩
     have HOC:=Hd hownc;have HBC:Hid (Below wo.heap.size wo wc):=Hd (HBA.out.trans (hbc.mono (by omega)));have HDO:=Hd (HOWN.out.below HBC.out);have HZC:Hid (wo.heap.size+1<=wc.heap.size):=Hd (by omega);clear hownc hbc hzc hwz;have kD:∀ob,(wc.alloc ob).cell? ⟨wo.heap.size,0,none⟩=some (.string (bs nm))/\(wc.alloc ob).cell? ⟨wo.heap.size,1,none⟩=some (.slice ra M rc)/\(wc.alloc ob).cell? ⟨w.heap.size,0,none⟩=some (.slice a1 n1 c1)/\(wc.alloc ob).cell? ⟨w.heap.size,1,none⟩=some (.slice a2 n2 c2)/\(wc.alloc ob).cell? ⟨w.heap.size,2,none⟩=some (.slice a3 n3 c3)/\(wc.alloc ob).cell? ⟨w.heap.size,3,none⟩=some (.slice a4 n4 c4):=fun ob=>by
      have:=HZC.out;exact⟨(aD (by show wo.heap.size<_;omega)).trans kC.1,(aD (by show wo.heap.size<_;omega)).trans kC.2.1,(aD (by show w.heap.size<_;omega)).trans kC.2.2.1,(aD (by show w.heap.size<_;omega)).trans kC.2.2.2.1,(aD (by show w.heap.size<_;omega)).trans kC.2.2.2.2.1,(aD (by show w.heap.size<_;omega)).trans kC.2.2.2.2.2⟩
     refine hK.out _ _ (kC) fun hU=>?_;clear hK K;refine aM [6] ?_;refine rd 7 fun K hK=>?_;go_simp;refine hK.out _ _ (kD _) fun hU=>?_;clear hK K;(try simp only[lay]);refine rd 8 fun K hK=>?_;obtain⟨wd,hwd⟩:=ex (wc.alloc (.cells #[.string (bs nm),.int .i64 2,.slice a' M' c'] 69));have HDD:Hid (WtsOwn wd (w.heap.size+1) (.slice ao q co) L):=Hd (by rw[hwd];exact HDO.out.below ((bR _ wc).alloc nL _));have HOD:Hid (wd.ownsRow (w.heap.size+1) 73 6 (.slice a' M' c') M' ((aQ m ⟨nm,rg⟩).map aU).flatten):=Hd (by rw[hwd];exact HOC.out.alloc _);have HNB:Hid (wd.heap[wc.heap.size]? =some (.cells #[.string (bs nm),.int .i64 2,.slice a' M' c'] 69 (0,0))):=Hd (by rw[hwd];exact heap_alloc_new wc _);have HSD:Hid (wd.heap.size=wc.heap.size+1):=Hd (by rw[hwd];exact sA _ _);have HBD:Hid (Below wo.heap.size wo wd):=Hd (by rw[hwd];exact HBC.out.alloc HBC.out.size _)
     have kW:wd.cell? ⟨wo.heap.size,0,none⟩=some (.string (bs nm))/\wd.cell? ⟨wo.heap.size,1,none⟩=some (.slice ra M rc)/\wd.cell? ⟨w.heap.size,0,none⟩=some (.slice a1 n1 c1)/\wd.cell? ⟨w.heap.size,1,none⟩=some (.slice a2 n2 c2)/\wd.cell? ⟨w.heap.size,2,none⟩=some (.slice a3 n3 c3)/\wd.cell? ⟨w.heap.size,3,none⟩=some (.slice a4 n4 c4):=by rw[hwd];exact kD _
     have hrow:=HDD.out.row;rw[<-HQL.out]at hrow;have HROW:=Hd hrow;have HWD:=Hd hwd;clear hwd hrow;rw[<-HWD.out];refine step_append_lies wd (by rfl) _ _ _ (by rfl) (w.heap.size+1) 69 i0 (.agg #[.string ByteArray.empty,.int .i64 0,.slice none 0 0]) 3 48 Tryz.underlying60 hi ha0 ha1 ha2 rfl (by decide) (.slice ao q co) q _ (by rfl) HROW.out ⟨wc.heap.size,0,none⟩ 1 1 [.string (bs nm),.int .i64 2,.slice a' M' c'] (by rfl) (by rfl) (World.news_of_block (cs:=#[.string (bs nm),.int .i64 2,.slice a' M' c']) (t:=69) (fr:=(0,0)) HNB.out) (by simp[Value.oneCell']) (by omega) (by unfold maxLen;omega) (by omega) (by have:=HSD.out;have:=HZC.out;omega) (wc.heap.size+1) HSD.out ?_;intro gn cn w4 hown4 hgrow4 hat4 hlt4;have hne:some wo.heap.size≠(Value.slice ao q co).ownBlock:=fun e=>by have:=(HOWN.out.row.lt wo.heap.size e.symm).2;omega
     have hne2:some w.heap.size≠(Value.slice ao q co).ownBlock:=fun e=>by have:=(HOWN.out.row.lt w.heap.size e.symm).1;omega
     have kE:w4.cell? ⟨wo.heap.size,0,none⟩=some (.string (bs nm))/\w4.cell? ⟨wo.heap.size,1,none⟩=some (.slice ra M rc)/\w4.cell? ⟨w.heap.size,0,none⟩=some (.slice a1 n1 c1)/\w4.cell? ⟨w.heap.size,1,none⟩=some (.slice a2 n2 c2)/\w4.cell? ⟨w.heap.size,2,none⟩=some (.slice a3 n3 c3)/\w4.cell? ⟨w.heap.size,3,none⟩=some (.slice a4 n4 c4):=by
      have:=HSD.out;have:=HZC.out;exact⟨(hgrow4.cell_far ⟨wo.heap.size,0,none⟩ (by show wo.heap.size<_;omega) hne).trans kW.1,(hgrow4.cell_far ⟨wo.heap.size,1,none⟩ (by show wo.heap.size<_;omega) hne).trans kW.2.1,(hgrow4.cell_far ⟨w.heap.size,0,none⟩ (by show w.heap.size<_;omega) hne2).trans kW.2.2.1,(hgrow4.cell_far ⟨w.heap.size,1,none⟩ (by show w.heap.size<_;omega) hne2).trans kW.2.2.2.1,(hgrow4.cell_far ⟨w.heap.size,2,none⟩ (by show w.heap.size<_;omega) hne2).trans kW.2.2.2.2.1,(hgrow4.cell_far ⟨w.heap.size,3,none⟩ (by show w.heap.size<_;omega) hne2).trans kW.2.2.2.2.2⟩
     have HO4:=Hd hown4;have HGR4:=Hd hgrow4;clear hown4 hgrow4 hat4;refine hK.out _ _ (kE) fun hU=>?_;clear hK K;refine aM [9] ?_;refine dN ?_;have HNXT:Hid (WtsOwn w4 (w.heap.size+1) (.slice (some ⟨gn,0,none⟩) (q+1) cn) (L++[(⟨nm,2,aQ m ⟨nm,rg⟩⟩,(a',c'))])):=Hd (by
      refine HDD.out.add (p:=(⟨nm,2,aQ m ⟨nm,rg⟩⟩,(a',c'))) HGR4.out ?_ ?_
      ·rw[<-HQL.out];unfold gP;dsimp only;rw[<-HM'.out];exact HO4.out
      ·dsimp only;rw[<-HM'.out];exact HOD.out.kept HGR4.out (aJ HOD.out HDD.out.row (by decide)))
     have HB4:Hid (Below (w.heap.size+1) wb w4):=Hd ((HBO.out.trans (HBD.out.mono (by omega))).grown HGR4.out (by have:=HSD.out;have:=HZC.out;have:=HSB.out;omega) (fun g hg=>(HROW.out.lt g hg).1));have HL4:Hid ((L++[((⟨nm,2,aQ m ⟨nm,rg⟩⟩:Wt),(a',c'))]).map (·.1)=(ls.flatten).map (Fp m 1)++(mayL.take (k+1)).map (Fp m 2)):=Hd (Av (d:=⟨nm,rg⟩) HLL.out (by rw[hmayL];exact HX.out));clear kA kC kD kE kW;go_wp2;go_roundw;case rel=>exact⟨k+1,q+1,some ⟨gn,0,none⟩,cn,_,by go_num,rfl,by omega,by have:=HQL.out;simp;omega,by omega,HL4.out,HNXT.out,HB4.out⟩
     case measure=>simp[intOf];omega
    ·have HFIN:Hid ((jB L).map (·.1)=iP m ls may):=Hd (by
      rw[Ck];unfold iP gX;rw[HLL.out,List.take_of_length_le (by rw[hmayL];have:=HM5N.out;omega),hmayL];rfl)
     have hso:=zV HOWN.out (by have:=HQL.out;omega);have HSO:=Hd hso;have HBW:=Hd hb;have HGE:=Hd hbo.size;clear hso hb hbo;go_wp2_with fail;refine HSO.out.mono ?_;rintro e w5 ⟨rfl,hown5,hgr5⟩;have hl5:(jB L).length=q:=by rw[HQL.out];exact(jN L).length_eq
     have hl6:(iP m ls may).length=q:=by rw[<-HFIN.out,lM];exact hl5
     obtain⟨a5',c5',hv5⟩:=aC hown5.row;have hrd:=hown5.reads;rw[HFIN.out]at hrd;have hcap:=hown5.row;rw[hl5]at hcap;have hqc:q<=co/\co<=9223372036854775807:=by
      rcases hcap.2 with⟨h1,h2⟩ | ⟨g,cap,cur,h1,_,_,h3,h4,_⟩
      ·cases h1;exact⟨by omega,by omega⟩
      ·cases h1;unfold maxLen at h4;exact⟨h3,by omega⟩
     have HCP:=Hd (fun W=>Eh W ao q co hqc.1 hqc.2);have HRD:=Hd hrd;have HL6:=Hd hl6;have HG5:=Hd hgr5;have HOW:=Hd HOWN.out.row;clear hown5 hgr5 hl5 hl6 hv5 hrd hcap hqc;go_wp2_with fail;refine(HCP.out _).mono ?_;rintro e w6 ⟨rfl,rfl⟩;go_wp2;go_returns;unfold iQ;rw[HL6.out];refine⟨ao,q,rfl,(HRD.out.clip).mono (by omega) nL,HBW.out.grown HG5.out HBW.out.size (fun g hg=>by have:=(HOW.out.lt g hg).1;omega)⟩
end
theorem sizeBuilder:(Tryz.prog.info? 141).map (·.size)=some 2:=by kernel_rfl
theorem liesBuilder:liesAt Tryz.prog Tryz.prog.depth 141 (2/Tryz.prog.cellsOf 141) 0 141 1=true:=by kernel_rfl
theorem infoByte:(Tryz.prog.info? 5).map (fun i=>(i.zero,i.size,i.bytes))=some (some (.int .u8 0),1,1):=by kernel_rfl
abbrev Build(B b:Nat)(bs:List Value)(w:World):Prop:=Go.Lib.IsBuilder 141 5 B b bs w
theorem mV(b:Nat)(w:World)(h0:w.cell? ⟨b,0,none⟩=some (.pointer (some ⟨b,0,none⟩))):
 Calls Tryz.prog 117 #[.pointer (some ⟨b,0,none⟩)] w fun e w'=>e=.returned (.tuple #[])/\w'=w:=by
 obtain⟨j,hj,_⟩:=Option.map_eq_some_iff.1 sizeBuilder;have hn:∀w,(binOp .neq 138 (.pointer (some ⟨b,0,none⟩)) (.pointer (some ⟨b,0,none⟩))).run Tryz.prog w=.ok (.bool false) w:=fun w=>Go.Lib.run_neq_ptr_same w _ Tryz.underlying138 hj;go_enter Tryz.func117,Tryz.ntmps117;go_wp2;go_returns;exact⟨rfl,rfl⟩
theorem lH(b:Nat)(w:World)(h0:w.cell? ⟨b,0,none⟩=some (.pointer none))(hsh:w.shape? b=some (141,2))(hfz:w.frozen? ⟨b,0,none⟩=false):
 Calls Tryz.prog 117 #[.pointer (some ⟨b,0,none⟩)] w fun e w'=>e=.returned (.tuple #[])/\w'=w.setCell ⟨b,0,none⟩ (.pointer (some ⟨b,0,none⟩)):=by
 obtain⟨j,hj,hjs⟩:=Option.map_eq_some_iff.1 sizeBuilder;have h1:(convert 138 227 (.pointer (some ⟨b,0,none⟩))).run Tryz.prog w=.ok (.pointer (some ⟨b,0,none⟩)) w:=Go.Lib.run_to_unsafe w ⟨b,0,none⟩ Tryz.underlying138 Tryz.underlying227 hj (by rw[hjs];decide) hsh (Nat.zero_lt_succ 1);have h2:(convert 227 138 (.pointer (some ⟨b,0,none⟩))).run Tryz.prog w=.ok (.pointer (some ⟨b,0,none⟩)) w:=Go.Lib.run_from_unsafe w ⟨b,0,none⟩ Tryz.underlying227 Tryz.underlying138 hj hsh liesBuilder;have h3:(callFunc 162 #[.pointer (some ⟨b,0,none⟩)]).run Tryz.prog w=.ok (.value (.pointer (some ⟨b,0,none⟩))) w:=by
  rw[run_callFunc_extern Tryz.func162 (by kernel_rfl) (by kernel_rfl) (by kernel_rfl) (e:=Extern.AbiNoEscape.same) (by kernel_rfl),Go.Lib.run_noEscape];rfl
 go_enter Tryz.func117,Tryz.ntmps117;go_wp2;go_returns;exact⟨rfl,rfl⟩
theorem wS(B b:Nat)(bs:List Value)(w:World)(h:Build B b bs w):
 Calls Tryz.prog 117 #[.pointer (some ⟨b,0,none⟩)] w fun e w'=>e=.returned (.tuple #[])/\(Go.Lib.BuilderAt 141 5 B b (.pointer (some ⟨b,0,none⟩)) bs w'/\Below B w w'):=by
 rcases h with h | h
 ·refine(lH b w h.cell0 h.shape h.frozen0).mono ?_;rintro e w' ⟨rfl,rfl⟩;exact⟨rfl,h.used _,(bR B w).setCell (p:=⟨b,0,none⟩) h.1 _⟩
 ·refine(mV b w h.cell0).mono ?_;rintro e w' ⟨rfl,rfl⟩;exact⟨rfl,h,bR B _⟩
theorem lJ(B b:Nat)(bs:List Value)(s:ByteArray)(w:World)(h:Build B b bs w)(hlen:bs.length+s.size<=140737488355328)(hBw:B<=w.heap.size):
 Calls Tryz.prog 72 #[.pointer (some ⟨b,0,none⟩),.string s] w fun e w'=>e=.returned (.tuple #[.int .i64 s.size,.nilIface])/\(Build B b (bs++Go.Lib.strCells s) w'/\Below B w w'):=by
 obtain⟨i0,hi,hz0,hz1,hz2⟩:=info_parts infoByte;go_enter Tryz.func72,Tryz.ntmps72;go_wp2_with fail;refine(wS B b bs _ h).mono ?_;rintro e w1 ⟨rfl,h1,hb1⟩;obtain⟨hB,v,hbk,hown,hne⟩:=h1;have c0:w1.cell? ⟨b,0,none⟩=some (.pointer (some ⟨b,0,none⟩)):=by rw[Go.Lib.cell_of_heap hbk];rfl
 have c1:w1.cell? ⟨b,1,none⟩=some v:=by rw[Go.Lib.cell_of_heap hbk];rfl
 have hlt:b<w1.heap.size:=by
  rcases Nat.lt_or_ge b w1.heap.size with h' | h'
  ·exact h'
  ·simp[Array.getElem?_eq_none h']at hbk
 go_wp2_with (at_builtin;refine Go.Lib.wpList_append_own_string _ rfl _ _ 139 9 rfl B 5 i0 Tryz.underlying139 Tryz.underlying9 hi hz0 hz1 hz2 _ _ _ rfl hown s rfl (by unfold maxLen;omega) (by omega) (by have:=hb1.size;omega) ?_;intro v' w2 hown' hgrow hnil;have hb2:w2.heap[b]? =some (.cells #[.pointer (some ⟨b,0,none⟩),v] 141 (0,0)):=(by rw[hgrow.block b hlt (fun e=>hne e.symm)];exact hbk);have d0:w2.cell? ⟨b,0,none⟩=some (.pointer (some ⟨b,0,none⟩)):=(by rw[Go.Lib.cell_of_heap hb2];rfl);have d1:w2.cell? ⟨b,1,none⟩=some v:=(by rw[Go.Lib.cell_of_heap hb2];rfl);have f1:w2.frozen? ⟨b,1,none⟩=false:=Go.Lib.frozen_of_heap hb2 1;obtain⟨ao,cap,rfl⟩:=aC hown');go_returns;refine⟨rfl,Or.inr ?_,?_⟩
 ·exact Go.Lib.BuilderAt.put (T:=141) (e:=5) hB hb2 (bs':=bs++Go.Lib.strCells s) (by simpa[Go.Lib.strCells_length]using hown') (by decide)
 ·exact(hb1.grown hgrow (by have:=hb1.size;omega) (fun k hk=>(hown.lt k hk).1)).setCell (p:=⟨b,1,none⟩) hB _
def Kj(b:Nat)(w w':World):Prop:=∀(k:Nat) (cs:Array Value) (t:TypeId) (fr:Nat×Nat),k≠b->w.heap[k]? =some (.cells cs t fr)->t≠5->w'.heap[k]? =w.heap[k]?
theorem vQ(B b:Nat)(bs:List Value)(w:World)(h:Build B b bs w):
 Calls Tryz.prog 117 #[.pointer (some ⟨b,0,none⟩)] w fun e w'=>e=.returned (.tuple #[])/\(Go.Lib.BuilderAt 141 5 B b (.pointer (some ⟨b,0,none⟩)) bs w'/\Below B w w')/\∀k,k≠b->w'.heap[k]? =w.heap[k]?:=by
 rcases h with h | h
 ·refine(lH b w h.cell0 h.shape h.frozen0).mono ?_;rintro e w' ⟨rfl,rfl⟩;exact⟨rfl,⟨h.used _,(bR B w).setCell (p:=⟨b,0,none⟩) h.1 _⟩,fun k hk=>Below.heap_setCell _ _ _ _ hk⟩
 ·refine(mV b w h.cell0).mono ?_;rintro e w' ⟨rfl,rfl⟩;exact⟨rfl,⟨h,bR B _⟩,fun _ _=>rfl⟩
theorem kJ(B b:Nat)(bs:List Value)(s:ByteArray)(w:World)(h:Build B b bs w)(hlen:bs.length+s.size<=140737488355328)(hBw:B<=w.heap.size):
 Calls Tryz.prog 72 #[.pointer (some ⟨b,0,none⟩),.string s] w fun e w'=>e=.returned (.tuple #[.int .i64 s.size,.nilIface])/\(Build B b (bs++Go.Lib.strCells s) w'/\Below B w w')/\Kj b w w':=by
 obtain⟨i0,hi,hz0,hz1,hz2⟩:=info_parts infoByte;go_enter Tryz.func72,Tryz.ntmps72;go_wp2_with fail;refine(vQ B b bs _ h).mono ?_;rintro e w1 ⟨rfl,⟨h1,hb1⟩,hk1⟩;obtain⟨hB,v,hbk,hown,hne⟩:=h1;have c0:w1.cell? ⟨b,0,none⟩=some (.pointer (some ⟨b,0,none⟩)):=by rw[Go.Lib.cell_of_heap hbk];rfl
 have c1:w1.cell? ⟨b,1,none⟩=some v:=by rw[Go.Lib.cell_of_heap hbk];rfl
 have hlt:b<w1.heap.size:=by
  rcases Nat.lt_or_ge b w1.heap.size with h' | h'
  ·exact h'
  ·simp[Array.getElem?_eq_none h']at hbk
 go_wp2_with (at_builtin;refine Go.Lib.wpList_append_own_string _ rfl _ _ 139 9 rfl B 5 i0 Tryz.underlying139 Tryz.underlying9 hi hz0 hz1 hz2 _ _ _ rfl hown s rfl (by unfold maxLen;omega) (by omega) (by have:=hb1.size;omega) ?_;intro v' w2 hown' hgrow hnil;have hb2:w2.heap[b]? =some (.cells #[.pointer (some ⟨b,0,none⟩),v] 141 (0,0)):=(by rw[hgrow.block b hlt (fun e=>hne e.symm)];exact hbk);have d0:w2.cell? ⟨b,0,none⟩=some (.pointer (some ⟨b,0,none⟩)):=(by rw[Go.Lib.cell_of_heap hb2];rfl);have d1:w2.cell? ⟨b,1,none⟩=some v:=(by rw[Go.Lib.cell_of_heap hb2];rfl);have f1:w2.frozen? ⟨b,1,none⟩=false:=Go.Lib.frozen_of_heap hb2 1;obtain⟨ao,cap,rfl⟩:=aC hown');go_returns;have hgr:w1.grownBy w2 v.ownBlock:=hgrow;refine⟨rfl,⟨Or.inr ?_,?_⟩,?_⟩
 ·exact Go.Lib.BuilderAt.put (T:=141) (e:=5) hB hb2 (bs':=bs++Go.Lib.strCells s) (by simpa[Go.Lib.strCells_length]using hown') (by decide)
 ·exact(hb1.grown hgrow (by have:=hb1.size;omega) (fun k hk=>(hown.lt k hk).1)).setCell (p:=⟨b,1,none⟩) hB _
 ·intro k cs t fr hkb hkc ht;have hw1:w1.heap[k]? =some (.cells cs t fr):=(hk1 k hkb).trans hkc;have hlt:k<w1.heap.size:=(Array.getElem?_eq_some_iff.1 hw1).1;rw[Below.heap_setCell _ _ _ _ hkb,hgr.block k hlt ?_]
  ·exact hk1 k hkb
  ·intro e;rcases hown.2 with⟨hv,_⟩ | ⟨g,cap,cur,hv,_,hg,_⟩
   ·rw[hv]at e;simp[Value.ownBlock]at e
   ·rw[hv]at e;have:k=g:=Option.some.inj e;subst this;rw[hw1]at hg;simp only[iS,Obj.cells.injEq]at hg;exact ht hg.2.1
theorem lI{T e:TypeId}{B b:Nat}{p:Value}{xs:List Value}{w w':World}(h:Go.Lib.BuilderAt T e B b p xs w)(hb:Below w.heap.size w w'):Go.Lib.BuilderAt T e B b p xs w':=by
 obtain⟨hB,v,hbk,hown,hne⟩:=h;have hlt:b<w.heap.size:=by
  rcases Nat.lt_or_ge b w.heap.size with h' | h'
  ·exact h'
  ·simp[Array.getElem?_eq_none h']at hbk
 exact⟨hB,v,by rw[hb.block b hlt];exact hbk,hown.kept (row:=none) ⟨hb.os,hb.tape,hb.output,hb.size,fun k hk _=>hb.block k hk⟩ (by cases v.ownBlock<;>simp),hne⟩
theorem iC{B b:Nat}{xs:List Value}{w w':World}(h:Build B b xs w)(hb:Below w.heap.size w w'):Build B b xs w':=by
 rcases h with h | h
 ·exact Or.inl (lI h hb)
 ·exact Or.inr (lI h hb)
section
open Top
def mZ(e:Ending)(r:Option Nd):Prop:=∃(y:Nd) (a:Option Addr) (n c:Nat) (a':Option Addr) (n' c':Nat) (b:Bool),e=.returned (.tuple #[ndV y (.slice a n c) (.slice a' n' c'),.bool b])/\r=if b then some y else none
theorem mZ.yes{r:Option Nd}{y:Nd}{a:Option Addr}{n c:Nat}{a':Option Addr}{n' c':Nat}(h:r=some y){e:Ending}(he:e=.returned (.tuple #[ndV y (.slice a n c) (.slice a' n' c'),.bool true])):mZ e r:=⟨y,a,n,c,a',n',c',true,he,by simp[h]⟩
theorem mZ.no{r:Option Nd}(h:r=none){e:Ending}(he:e=.returned (.tuple #[ndV nd0 (.slice none 0 0) (.slice none 0 0),.bool false])):mZ e r:=⟨nd0,_,_,_,_,_,_,false,he,by simp[h]⟩
theorem Jl(w:World)(v:Value)(g:List Nd)(h:NdsAt w w.heap.size v g)(hn:g.length<=1000000000)(i:Nat)(x:Nd)(hx:g[i]? =some x)(hxn:x.edges.length<=1000000000)(hd:∀e∈x.edges,∃(j:Nat) (y:Nd),e.dst=(j:Int)/\g[j]? =some y)(n:List UInt8):
 Calls Tryz.prog 52 #[.agg #[v],.int .i64 i,.string (bs n)] w fun e w'=>mZ e (bE g x.edges n)/\Below w.heap.size w w':=by
 obtain⟨bk,o,cap,hve,hcap,hbk,hat⟩:=h.at (by have:=(gS hx).1;omega);subst hve;have hi:=(gS hx).1;obtain⟨_,_,a2,c2,_,hE,_,_,_,_,_,x5⟩:=hat i x hx;have HAT:=Hd hat;have HD:=Hd hd;have HE:=Hd hE;obtain⟨N,hN⟩:∃N,N=g.length:=⟨_,rfl⟩;obtain⟨M,hM⟩:∃N,N=x.edges.length:=⟨_,rfl⟩;rw[<-hN]at hn hi hcap |-;rw[<-hM]at hxn x5 hE;have HN:=Hd hN;have HM:=Hd hM;clear hat h hd hx hM hN hE;obtain⟨wb,hwb⟩:∃x,x=(w.alloc (.cells #[.slice (some ⟨bk,o,none⟩) N cap] 35)).alloc (.cells #[.string ⟨#[]⟩,.int .i64 0,.int .i64 0,.int .i64 0,.slice none 0 0,.slice none 0 0] 57):=⟨_,rfl⟩;have hbl:Below w.heap.size w wb:=by rw[hwb];exact((bR _ w).alloc nL _).alloc (by simp) _
 have HSZ:Hid (wb.heap.size=w.heap.size+2):=Hd (by rw[hwb];simp);have HBL:=Hd hbl;have HWC:Hid ((∀x,Below wb.heap.size wb x->x.heap[w.heap.size]? =some (.cells #[.slice (some ⟨bk,o,none⟩) N cap] 35 (0,0)))/\∀x,Below wb.heap.size wb x->x.heap[w.heap.size+1]? =some (.cells #[.string ⟨#[]⟩,.int .i64 0,.int .i64 0,.int .i64 0,.slice none 0 0,.slice none 0 0] 57 (0,0))):=Hd (by
  have:=HSZ.out;refine⟨fun x hx=>?_,fun x hx=>?_⟩
  ·rw[hx.block _ (by omega),hwb];show(World.alloc _ _).heap[_]? =_;rw[Below.heap_alloc _ _ _ (by simp)];exact heap_alloc_new w _
  ·rw[hx.block _ (by omega),hwb];exact(congrArg (fun k=>(World.alloc _ _).heap[k]?) (by simp)).trans (heap_alloc_new _ _))
 have HB0:Hid (∀x,Below wb.heap.size wb x->x.cell? ⟨w.heap.size,0,none⟩=some (.slice (some ⟨bk,o,none⟩) N cap)):=Hd (fun x hx=>by rw[Go.Lib.cell_of_heap (HWC.out.1 x hx)];rfl);have HRES:Hid (∀x,Below wb.heap.size wb x->x.cell? ⟨w.heap.size+1,0,none⟩=some (.string ⟨#[]⟩)/\x.cell? ⟨w.heap.size+1,1,none⟩=some (.int .i64 0)/\x.cell? ⟨w.heap.size+1,2,none⟩=some (.int .i64 0)/\x.cell? ⟨w.heap.size+1,3,none⟩=some (.int .i64 0)/\x.cell? ⟨w.heap.size+1,4,none⟩=some (.slice none 0 0)/\x.cell? ⟨w.heap.size+1,5,none⟩=some (.slice none 0 0)):=Hd (fun x hx=>by
  have h0:=HWC.out.2 x hx;exact⟨by rw[Go.Lib.cell_of_heap h0];rfl,by rw[Go.Lib.cell_of_heap h0];rfl,by rw[Go.Lib.cell_of_heap h0];rfl,by rw[Go.Lib.cell_of_heap h0];rfl,by rw[Go.Lib.cell_of_heap h0];rfl,by rw[Go.Lib.cell_of_heap h0];rfl⟩)
 have HRFR:Hid (∀x,Below wb.heap.size wb x->∀i,x.frozen? ⟨w.heap.size+1,i,none⟩=false):=Hd (fun x hx i=>Go.Lib.frozen_of_heap (HWC.out.2 x hx) i);clear hbl;go_enter Tryz.func52,Tryz.ntmps52;go_wp2;go_loopw [17] (fun p wr=>∃k:Nat,p=.int .i64 k/\k<=M/\(∀(j:Nat) y,j<k->x.edges[j]? =some y->y.label≠n)/\Below wb.heap.size wb wr) (fun p _=>M-(intOf p).toNat);case atStart=>exact⟨0,rfl,by omega,fun j y h=>absurd h (by omega),by rw[<-hwb];exact bR _ _⟩
 case round=>
  clear hwb;obtain⟨k,rfl,hk,hno,hb⟩:=hrel;have HNO:=Hd hno;clear hno;by_cases hkM:k<M
  ·obtain⟨y,hy⟩:∃y,x.edges[k]? =some y:=⟨_,gE (by have:=HM.out;omega)⟩;obtain⟨bk2,o2,cap2,hve2,hcap2,hbk2,hat2⟩:=HE.out.at (by have:=HM.out;omega);have hve3:(Value.slice a2 M c2)=.slice (some ⟨bk2,o2,none⟩) M cap2:=by rw[HM.out];exact hve2
   cases hve3;have hw:=HBL.out.trans (hb.mono HBL.out.size);obtain⟨f0,f1⟩:=hat2 k y hy;have f0:=(hw.cell (p:=⟨bk2,o2+k*2,none⟩) hbk2).trans f0;have f1:=(hw.cell (p:=⟨bk2,o2+k*2+1,none⟩) hbk2).trans f1;have HY:=Hd hy;obtain⟨ny,hny⟩:∃n,n=y.label:=⟨_,rfl⟩;rw[<-hny]at f0;unfold sv at f0;have HNY:=Hd hny;have hwz:=hw.size;have hbz:=hb.size;have hsz:=HSZ.out;clear hat2 hve2 hcap2 hny;by_cases he:ny=n
   ·obtain⟨j,z,hdz,hz⟩:=HD.out y (mG hy);have hj:j<N:=by have:=(gS hz).1;have:=HN.out;omega
    obtain⟨cx,ccx,ce,cce,_,_,z0,z1,z2,z3,z4,z5⟩:=HAT.out j z hz;have hwa:=hw.alloc hwz (.cells #[.string (bs ny),.int .i64 j] 111);have z0:=(hwa.cell (p:=⟨bk,o+j*6,none⟩) hbk).trans z0;have z1:=(hwa.cell (p:=⟨bk,o+j*6+1,none⟩) hbk).trans z1;have z2:=(hwa.cell (p:=⟨bk,o+j*6+2,none⟩) hbk).trans z2;have z3:=(hwa.cell (p:=⟨bk,o+j*6+3,none⟩) hbk).trans z3;have z4:=(hwa.cell (p:=⟨bk,o+j*6+4,none⟩) hbk).trans z4;have z5:=(hwa.cell (p:=⟨bk,o+j*6+5,none⟩) hbk).trans z5;rw[hdz]at f1;have HF:Hid (bE g x.edges n=some z):=Hd (by
     unfold bE;rw[Qh HY.out (by rw[<-HNY.out];exact he) HNO.out];show g[y.dst.toNat]? =some z;rw[hdz];exact hz)
    have hq:((bs ny).toList==(bs n).toList)=true:=by rw[aA,aA];simpa using he
    have hq2:(bs ny).toList=(bs n).toList:=by rw[aA,aA];exact he
    have b0:=HB0.out _ (hb.alloc hbz (.cells #[.string (bs ny),.int .i64 j] 111));obtain⟨r0,r1,r2,r3,r4,r5⟩:=HRES.out _ (hb.alloc hbz (.cells #[.string (bs ny),.int .i64 j] 111));have fr:=HRFR.out _ (hb.alloc hbz (.cells #[.string (bs ny),.int .i64 j] 111));have fr0:=fr 0;have fr1:=fr 1;have fr2:=fr 2;have fr3:=fr 3;have fr4:=fr 4;have fr5:=fr 5;clear he hy hz hdz fr;unfold sv at z0;go_wp2;have hwy:=fun vs=>aV (w.heap.size+1) vs (wr.alloc (.cells #[.string (bs ny),.int .i64 j] 111)) 0;have hy:=fun vs hj=>bK (w.heap.size+1) vs (wr.alloc (.cells #[.string (bs ny),.int .i64 j] 111)) 0 hj;have hy:=hy [.string (bs z.name),.int .i64 z.v.a,.int .i64 z.v.b,.int .i64 z.v.c,.slice cx z.ctx.length ccx,.slice ce z.edges.length cce] (fun i hi=>by
     match i,hi with
     | 0,_=>exact⟨_,r0⟩
     | 1,_=>exact⟨_,r1⟩
     | 2,_=>exact⟨_,r2⟩
     | 3,_=>exact⟨_,r3⟩
     | 4,_=>exact⟨_,r4⟩
     | 5,_=>exact⟨_,r5⟩)
    have hwy:=hwy [.string (bs z.name),.int .i64 z.v.a,.int .i64 z.v.b,.int .i64 z.v.c,.slice cx z.ctx.length ccx,.slice ce z.edges.length cce];have s0:=hy 0 _ rfl;have s1:=hy 1 _ rfl;have s2:=hy 2 _ rfl;have s3:=hy 3 _ rfl;have s4:=hy 4 _ rfl;have s5:=hy 5 _ rfl;simp only[bI,Nat.zero_add,Nat.reduceAdd]at s0 s1 s2 s3 s4 s5 hwy;refine bodyPost_ret (by simp[results,Tryz.results52,go_sem,s0,s1,s2,s3,s4,s5];try rfl) rfl ?_;exact⟨mZ.yes HF.out rfl,hwa.trans (hwy.mono (by omega))⟩
   ·have HNXT:Hid (∀(j:Nat) y,j<k+1->x.edges[j]? =some y->y.label≠n):=Hd (fun j z hj hz=>by
     rcases Nat.lt_or_ge j k with h | h
     ·exact HNO.out j z h hz
     ·have:j=k:=by omega
      subst this;rw[HY.out]at hz;cases hz;rw[<-HNY.out];exact he)
    have hq:((bs ny).toList==(bs n).toList)=false:=by rw[aA,aA];simpa using he
    have hq2:¬(bs ny).toList=(bs n).toList:=by rw[aA,aA];exact he
    clear he hy;go_wp2;go_roundw;case rel=>exact⟨k+1,by go_num,by omega,HNXT.out,hb.alloc hbz _⟩
    case measure=>simp[intOf];omega
  ·have HF:Hid (bE g x.edges n=none):=Hd (by
    unfold bE;rw[zK fun j y hy=>HNO.out j y (by have:=(gS hy).1;have:=HM.out;omega) hy];rfl)
   have hw:=HBL.out.trans (hb.mono HBL.out.size);have hwz:=hw.size;have hbz:=hb.size;have hsz:=HSZ.out;obtain⟨r0,r1,r2,r3,r4,r5⟩:=HRES.out _ hb;have fr:=HRFR.out _ hb;have fr0:=fr 0;have fr1:=fr 1;have fr2:=fr 2;have fr3:=fr 3;have fr4:=fr 4;have fr5:=fr 5;clear fr;go_wp2;have hwy:=fun vs=>aV (w.heap.size+1) vs wr 0;have hy:=fun vs hj=>bK (w.heap.size+1) vs wr 0 hj;have hy:=hy [.string ⟨#[]⟩,.int .i64 0,.int .i64 0,.int .i64 0,.slice none 0 0,.slice none 0 0] (fun i hi=>by
    match i,hi with
    | 0,_=>exact⟨_,r0⟩
    | 1,_=>exact⟨_,r1⟩
    | 2,_=>exact⟨_,r2⟩
    | 3,_=>exact⟨_,r3⟩
    | 4,_=>exact⟨_,r4⟩
    | 5,_=>exact⟨_,r5⟩)
   have hwy:=hwy [.string ⟨#[]⟩,.int .i64 0,.int .i64 0,.int .i64 0,.slice none 0 0,.slice none 0 0];have s0:=hy 0 _ rfl;have s1:=hy 1 _ rfl;have s2:=hy 2 _ rfl;have s3:=hy 3 _ rfl;have s4:=hy 4 _ rfl;have s5:=hy 5 _ rfl;simp only[bI,Nat.zero_add,Nat.reduceAdd]at s0 s1 s2 s3 s4 s5 hwy;refine bodyPost_ret (by simp[results,Tryz.results52,go_sem,s0,s1,s2,s3,s4,s5];try rfl) rfl ?_;exact⟨mZ.no HF.out rfl,hw.trans (hwy.mono (by omega))⟩
end
section
open Top
namespace Top
def pF(a b:List Dp):Bool:=a.all fun x=>b.all fun y=>decide (x.name≠y.name)
theorem Qm{a b:List Dp}{x y:Dp}(hx:x∈a)(hy:y∈b)(h:x.name=y.name):pF a b=false:=by
 unfold pF;exact List.all_eq_false.2 ⟨x,hx,by rw[List.all_eq_true];intro hh;have:=hh y hy;simp[h]at this⟩
theorem Nj{a b:List Dp}(h:∀(i:Nat) x,a[i]? =some x->∀(j:Nat) y,b[j]? =some y->x.name≠y.name):pF a b=true:=by
 unfold pF;rw[List.all_eq_true];intro x hx;rw[List.all_eq_true];intro y hy;obtain⟨i,hi,rfl⟩:=eI.1 hx;obtain⟨j,hj,rfl⟩:=eI.1 hy;exact decide_eq_true (h i _ (gE hi) j _ (gE hj))
end Top
theorem oQ(w:World)(v1 v2:Value)(a b:List Dp)(h1:DpsAt w w.heap.size v1 a)(h2:DpsAt w w.heap.size v2 b)(hn1:a.length<=4611686018427387904)(hn2:b.length<=4611686018427387904):
 Calls Tryz.prog 64 #[v1,v2] w fun e w'=>e=.returned (.bool (pF a b))/\∃m,w'=w.drewN m:=by
 obtain⟨a1,c1,hv1⟩:=h1.form;obtain⟨a2,c2,hv2⟩:=h2.form;obtain⟨N,hN⟩:∃N,N=a.length:=⟨_,rfl⟩;obtain⟨M,hM⟩:∃N,N=b.length:=⟨_,rfl⟩;rw[<-hN]at hv1 hn1;rw[<-hM]at hv2 hn2;have HN:=Hd hN;have HM:=Hd hM;have HA:=Hd h1;have HB:=Hd h2;subst hv1 hv2;clear h1 h2 hN hM;go_enter Tryz.func64,Tryz.ntmps64;go_wp2;go_loopw [5] (fun p wr=>∃k m:Nat,p=.int .i64 k/\k<=N/\(∀(i:Nat) x,i<k->a[i]? =some x->∀(j:Nat) y,b[j]? =some y->x.name≠y.name)/\wr=w.drewN m) (fun p _=>N-(intOf p).toNat);case atStart=>exact⟨0,0,rfl,by omega,fun i x h=>absurd h (by omega),rfl⟩
 case round=>
  obtain⟨k,m,rfl,hk,hall,rfl⟩:=hrel;have HALL:=Hd hall;clear hall;by_cases hkN:k<N
  ·obtain⟨x,hx⟩:∃x,a[k]? =some x:=⟨_,gE (by have:=HN.out;omega)⟩;obtain⟨bk,o,cap,hve,hcap,hbk,hat⟩:=HA.out.at (by have:=HN.out;omega);rw[<-HN.out]at hve;cases hve;obtain⟨_,_,_,e0,_⟩:=hat k x hx;have HX:=Hd hx;obtain⟨nx,hnx⟩:∃n,n=x.name:=⟨_,rfl⟩;rw[<-hnx]at e0;unfold sv at e0;have HNX:=Hd hnx;clear hx hat hnx hcap;go_wp2;go_loopw [6] (fun p wr=>∃i q:Nat,p=.int .i64 i/\i<=M/\(∀(j:Nat) y,j<i->b[j]? =some y->x.name≠y.name)/\wr=w.drewN q) (fun p _=>M-(intOf p).toNat);case atStart=>exact⟨0,m,rfl,by omega,fun j y h=>absurd h (by omega),rfl⟩
   case round=>
    obtain⟨i,q,rfl,hi,hin,rfl⟩:=hrel;have HIN:=Hd hin;clear hin;by_cases hiM:i<M
    ·obtain⟨y,hy⟩:∃x,b[i]? =some x:=⟨_,gE (by have:=HM.out;omega)⟩;obtain⟨bk2,o2,cap2,hve,hcap2,hbk2,hat2⟩:=HB.out.at (by have:=HM.out;omega);rw[<-HM.out]at hve;cases hve;obtain⟨_,_,_,f0,_⟩:=hat2 i y hy;obtain⟨ny,hny⟩:∃n,n=y.name:=⟨_,rfl⟩;rw[<-hny]at f0;unfold sv at f0;have HY:=Hd hy;have HNY:=Hd hny;clear hy hat2 hny hcap2;have hkN2:(k:Int)<(N:Int):=by omega
     have hiM2:(i:Int)<(M:Int):=by omega
     by_cases he:nx=ny
     ·have HF:Hid (pF a b=false):=Hd (Qm (mG HX.out) (mG HY.out) (by rw[<-HNX.out,<-HNY.out];exact he));have hq:((bs nx).toList==(bs ny).toList)=true:=by rw[aA,aA];simpa using he
      have hq2:(bs nx).toList=(bs ny).toList:=by rw[aA,aA];exact he
      clear he;go_wp2;go_quiet (fail);go_wp2;go_returns;exact⟨by rw[HF.out];rfl,_,by first | rfl | rw[World.drewN_drewN]⟩
     ·have HNXT:Hid (∀(j:Nat) y,j<i+1->b[j]? =some y->x.name≠y.name):=Hd (fun j z hj hz=>by
       rcases Nat.lt_or_ge j i with h | h
       ·exact HIN.out j z h hz
       ·have:j=i:=by omega
        subst this;rw[HY.out]at hz;cases hz;rw[<-HNX.out,<-HNY.out];exact he)
      have hq:((bs nx).toList==(bs ny).toList)=false:=by rw[aA,aA];simpa using he
      have hq2:¬(bs nx).toList=(bs ny).toList:=by rw[aA,aA];exact he
      clear he;go_wp2;go_quiet (fail);go_wp2;go_roundw;case rel=>exact⟨i+1,_,by go_num,by omega,HNXT.out,by first | rfl | rw[World.drewN_drewN]⟩
      case measure=>simp[intOf];omega
    ·have HNXT:Hid (∀(i:Nat) x,i<k+1->a[i]? =some x->∀(j:Nat) y,b[j]? =some y->x.name≠y.name):=Hd (fun i' x' hi' hx' j y hy=>by
      rcases Nat.lt_or_ge i' k with h | h
      ·exact HALL.out i' x' h hx' j y hy
      ·have:i'=k:=by omega
       subst this;rw[HX.out]at hx';cases hx';exact HIN.out j y (by have:=(gS hy).1;have:=HM.out;omega) hy)
     go_wp2;go_roundw;case rel=>exact⟨k+1,_,by go_num,by omega,HNXT.out,rfl⟩
     case measure=>simp[intOf];omega
  ·have HF:Hid (pF a b=true):=Hd (Nj fun i x hx=>HALL.out i x (by have:=(gS hx).1;have:=HN.out;omega) hx);go_wp2;go_returns;exact⟨by rw[HF.out];rfl,_,rfl⟩
end
end Go.Proofs.YtcohlmdnahdnaaaGreatDoor
