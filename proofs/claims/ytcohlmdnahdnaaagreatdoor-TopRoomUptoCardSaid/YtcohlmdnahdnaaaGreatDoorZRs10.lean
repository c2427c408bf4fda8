/- A node is bound: the program's walk. -/
import Derived.Test.YtcohlmdnahdnaaaGreatDoorZRs11
import Derived.Test.YtcohlmdnahdnaaaGreatDoorZRs8
namespace Go.Proofs.YtcohlmdnahdnaaaGreatDoor
open Go.RowKit
set_option linter.unusedVariables false
set_option linter.unusedSimpArgs false
set_option maxHeartbeats 16000000
set_option maxRecDepth 100000
section
open Top
namespace Top
theorem Bd{α:Type}(f:α->List Value)(l:List α):(l.map f).flatten=l.flatMap f:=by rw[List.flatMap_def]
def mQ(ctx:List Pn)(chs:List Ch)(i:Nat):List Pn:=(chs.take i).foldl bD ctx
theorem oZ{ctx:List Pn}{chs:List Ch}{i:Nat}{y:Ch}(h:chs[i]? =some y):mQ ctx chs (i+1)=bD (mQ ctx chs i) y:=by
 unfold mQ;rw[List.take_add_one,h,List.foldl_append];rfl
theorem pQ{P:Pb}{env:List Pn}{p:Pn}{c:List Pn}(hc:P.ctxOf env p=some c):∀ {l:List Pn} {ts:List Nd},targets P env l=some ts->targets P env (l++[p])=some (ts++[⟨p.name,p.v,c,[]⟩])
 | [],ts,h=>by
  simp only[targets,iS]at h;subst h;simp[targets,hc]
 | q::r,ts,h=>by
  rw[List.cons_append];unfold targets at h |-;cases hq:P.ctxOf env q with
  | none=>rw[hq]at h;simp at h
  | some d=>
   rw[hq]at h;dsimp only at h |-;cases hr:targets P env r with
   | none=>rw[hr]at h;simp at h
   | some us=>
    rw[hr]at h;simp only[Option.map_some,iS]at h;subst h;rw[pQ hc hr];rfl
theorem sF{P:Pb}{env:List Pn}{p:Pn}(hc:P.ctxOf env p=none):∀(l r:List Pn),targets P env (l++p::r)=none
 | [],r=>by simp[targets,hc]
 | q::l,r=>by
  rw[List.cons_append];unfold targets;cases P.ctxOf env q with
  | none=>rfl
  | some d=>
   dsimp only;rw[sF hc l r];rfl
theorem Sv:(Tryz.prog.info? 57).map (fun i=>(i.zero,i.size,i.bytes))=some (some (.agg #[.string ByteArray.empty,.int .i64 0,.int .i64 0,.int .i64 0,.slice none 0 0,.slice none 0 0]),6,88):=by kernel_rfl
theorem Sw:(Tryz.prog.info? 111).map (fun i=>(i.zero,i.size,i.bytes))=some (some (.agg #[.string ByteArray.empty,.int .i64 0]),2,24):=by kernel_rfl
theorem Uk:(Tryz.prog.info? 3).map (fun i=>(i.zero,i.size,i.bytes))=some (some (.int .i64 0),1,8):=by kernel_rfl
theorem Np{W:World}{r:Option (List Pn)}{e:Ending}{w':World}(h:iR W r e w'):∃a n ok,e=.returned (.tuple #[.slice a n n,.bool ok])/\Below W.heap.size W w'/\((ok=false/\r=none)\/(ok=true/\∃l c,r=some l/\n=l.length/\aO w' W.heap.size (.slice a n c) l)):=by
 cases r with
 | none=>exact⟨none,0,false,h.1,h.2,.inl ⟨rfl,rfl⟩⟩
 | some l=>
  obtain⟨a,c,h1,h2,h3⟩:=h;exact⟨a,l.length,true,h1,h3,.inr ⟨rfl,l,c,rfl,rfl,h2⟩⟩
def wK(w:World)(base sb:Nat)(f:Fx)(s:St)(vs vn va vw vf:Value)(cs:List Value)(ce:List (Value×Value))(b:Bnd)(e:Ending)(w':World):Prop:=match b with
 | .bad=>e=.returned (.int .i64 33)/\Below base w w'/\Held w' base sb f s vs vn va vw vf cs ce
 | .many=>e=.returned (.int .i64 32)/\Below base w w'
 | .ok nodes es=>e=.returned (.int .i64 0)/\Below base w w'/\∃vn' va' ce',Held w' base sb f (s.bind nodes es) vs vn' va' vw vf cs ce'
end Top
theorem Oa(w:World)(base sb:Nat)(f:Fx)(s:St)(vs vn va vw:Value)(cs:List Value)(ce:List (Value×Value))(h:Held w base sb f s vs vn va vw (.int .i64 s.first) cs ce)(most:Nat)(hI:Inv (gY f.C f.m f.dev f.pins) (bA f.C) most s)(hm:most<=128)(hC:f.C.length<=128)(nd:Nd)(hn:s.nodes[s.k]? =some nd)(hN:s.nodes.length<=128)(hS:s.stack.length<=1000000):
 Calls Tryz.prog 17 #[.pointer (some ⟨sb,0,none⟩),.int .i64 most] w fun e w'=>wK w base sb f s vs vn va vw (.int .i64 s.first) cs ce (dD f.pb most nd.ctx s.mine s.nodes) e w':=by
 obtain⟨ip,hip,hp0,hp1,hp2⟩:=info_parts zH;obtain⟨iq,hiq,hq0,hq1,hq2⟩:=info_parts Sv;obtain⟨ie,hie,he0,he1,he2⟩:=info_parts Sw;obtain⟨ii,hii,hii0,hii1,hii2⟩:=info_parts Uk;obtain⟨R,hR⟩:=ex (dD f.pb most nd.ctx s.mine s.nodes);rw[<-hR];have HR:=Hd hR;clear hR;obtain⟨a1,m1,hv1⟩:=h.ok.mf.deps.form;obtain⟨a2,m2,hv2⟩:=h.ok.mf.dev.form;obtain⟨a3,m3,hv3⟩:=h.ok.mf.opts.form;obtain⟨a4,m4,hv4⟩:=h.ok.mf.over.form;obtain⟨d1,hd1⟩:=ex (f.m.deps.length);obtain⟨d2,hd2⟩:=ex (f.m.dev.length);obtain⟨d3,hd3⟩:=ex (f.m.opts.length);obtain⟨d4,hd4⟩:=ex (f.m.over.length);rw[<-hd1]at hv1;rw[<-hd2]at hv2;rw[<-hd3]at hv3;rw[<-hd4]at hv4;obtain⟨gn,nc,cv,ev,hvn,hgn1,hgn2,hce,hcr,n0,n1,n2,n3,n4,n5⟩:=h.r.node hn;obtain⟨xa,xc,hcv⟩:=hcr.form;rw[lM]at hcv;have hrow:=hcr.row;obtain⟨XN,hXN⟩:=ex (nd.ctx.length)
 rw[<-hXN]at hcv;subst hcv;obtain⟨NN,hNN⟩:=ex (s.nodes.length);rw[<-hNN]at hvn hN;subst hvn;obtain⟨sa,sc,hvs⟩:=aC h.r.st;obtain⟨SN,hSN⟩:=ex (s.stack.length);rw[<-hSN]at hvs hS;subst hvs;obtain⟨aa,ac,hva⟩:=aC h.r.ah;obtain⟨K,hK⟩:=ex (s.k);have hva':va=.slice aa K ac:=by rw[hva,hK];rfl
 subst hva';rw[<-hK]at n4;obtain⟨F,hF⟩:=ex (s.first);rw[<-hF]at h;have hKN:K<NN:=by have:=(gS hn).1;omega
 have hXN1:XN<=128:=by rw[hXN];exact Nat.le_trans (hI.ctx_len hn) hC
 obtain⟨MN,hMN⟩:=ex (s.mine.length);have hMNF:MN+F=SN:=by
  have h1:s.first<=s.stack.length:=List.Sublist.length_le (List.takeWhile_sublist _);have h2:s.mine.length=s.stack.length-s.first:=by unfold St.mine;rw[List.length_drop]
  omega
 have c7:w.cell? ⟨sb,7,none⟩=some (.slice sa SN sc):=h.k.cell 7;have c8:w.cell? ⟨sb,8,none⟩=some (.slice (some ⟨gn,0,none⟩) NN nc):=h.k.cell 8;have c9:w.cell? ⟨sb,9,none⟩=some (.slice aa K ac):=h.k.cell 9;have c11:w.cell? ⟨sb,11,none⟩=some (.int .i64 F):=h.k.cell 11;have HCL:Hid (∀W,Below w.heap.size w W->Calls Tryz.prog 38 #[.slice xa XN xc] W fun e w'=>∃a' c',e=.returned (.slice a' XN c')/\w'.ownsRow W.heap.size 101 4 (.slice a' XN c') XN (nd.ctx.map aG).flatten/\Below W.heap.size W w'):=Hd (fun W hW=>tN W xa XN xc nd.ctx hXN.symm ((RowZ.below hrow hW nL).mono hW.size) (by omega));have hsb5:w.cell? ⟨sb,0,none⟩=some (.pointer (some ⟨f.s,0,none⟩))/\w.cell? ⟨sb,1,none⟩=some (.slice a1 d1 m1)/\w.cell? ⟨sb,2,none⟩=some (.slice a2 d2 m2)/\w.cell? ⟨sb,3,none⟩=some (.slice a3 d3 m3)/\w.cell? ⟨sb,4,none⟩=some (.slice a4 d4 m4):=by
  rw[<-hv1,<-hv2,<-hv3,<-hv4];exact⟨h.k.cell 0,h.k.cell 1,h.k.cell 2,h.k.cell 3,h.k.cell 4⟩
 have HCTX:Hid (∀W (E:List Pn) (ve:Value) (p:Pn),Below w.heap.size w W->aO W w.heap.size ve E->E.length<=1000000->(∀q∈E,bA f.C q.name q.v=true)->bA f.C p.name p.v=true->Calls Tryz.prog 42 #[.pointer (some ⟨f.s,0,none⟩),.agg #[.slice a1 d1 m1,.slice a2 d2 m2,.slice a3 d3 m3,.slice a4 d4 m4],ve,.agg #[.string (bs p.name),.int .i64 p.v.a,.int .i64 p.v.b,.int .i64 p.v.c]] W fun e w'=>iR W (ctxOf f.C f.m E p) e w'):=Hd (fun W E ve p hW hE hEl hEk hpk=>by
  have hbw:Below base w W:=hW.mono (Nat.le_of_lt h.size);have hbs:base<=W.heap.size:=Nat.le_trans (Nat.le_of_lt h.size) hW.size;have:=tK W f.s f.b f.C ((h.ok.cat.below hbw nL).mono hbs) h.ok.pz f.m f.v1 f.v2 f.v3 f.v4 ((h.ok.mf.below hbw nL).mono hbs) h.ok.mz E ve hE.at hEl (fun q hq=>h.ok.key (hEk q hq)) p (h.ok.key hpk);rw[hv1,hv2,hv3,hv4]at this;exact this)
 have HSB5:=Hd hsb5;have hch:∀(i:Nat) y,s.mine[i]? =some y->∃g va vn vc,sa=some ⟨g,0,none⟩/\g<w.heap.size/\vn=y.vs.length/\vn<=129/\RowZ 3 w w.heap.size (.slice va vn vc) (y.vs.map aI)/\w.cell? ⟨g,F*5+i*5,none⟩=some (.int .i64 y.node)/\w.cell? ⟨g,F*5+i*5+1,none⟩=some (.string (bs y.name))/\w.cell? ⟨g,F*5+i*5+2,none⟩=some (.slice va vn vc)/\w.cell? ⟨g,F*5+i*5+3,none⟩=some (.bool y.none)/\w.cell? ⟨g,F*5+i*5+4,none⟩=some (.int .i64 y.pos):=fun i y hy=>by
  have hy2:=hy;unfold St.mine at hy2;rw[List.getElem?_drop,<-hF]at hy2;obtain⟨g,cap,c,e1,h1,h2,h3,h4,q0,q1,q2,q3,q4⟩:=h.r.ch hy2;obtain⟨a,c',e2⟩:=h4.form;have hr:=h4.row;rw[lM]at e2;subst e2;obtain⟨w',hw'⟩:=hI.mine_like hn (mG hy);rw[Nat.add_mul]at q0 q1 q2 q3 q4;refine⟨g,a,y.vs.length,c',by injection e1,h2,rfl,by have:=(zD hw').1;omega,hr,q0,q1,q2,q3,q4⟩
 have HCH:=Hd hch;have HHD:=Hd h;have HNN:=Hd hNN;have HXN:=Hd hXN;have HK:=Hd hK;have HF:=Hd hF;have HMN:=Hd hMN;have HI:=Hd hI;have HN:=Hd hn;have hMF:MN<=SN:=by omega
 have hsub:(SN:Int)-(F:Int)=(MN:Int):=by omega
 have hfs:(F:Int)<=(SN:Int):=by omega
 have hfz:(0:Int)<=(F:Int):=by omega
 have hkz:(K:Int)<(NN:Int):=by omega
 have hsn:SN-F=MN:=by omega
 have hscap:SN<=sc/\(sa=none\/∃g,sa=some ⟨g,0,none⟩):=by
  rcases h.r.st.2 with⟨e1,e2⟩ | ⟨g1,c1,cur,e1,_,_,h4,_⟩
  ·cases e1;exact⟨by omega,.inl rfl⟩
  ·injection e1 with e0 e2 e3;exact⟨by rw[e3,e2];exact h4,.inr ⟨g1,e0⟩⟩
 have hsc0:=hscap.1;have HSA:=Hd hscap.2;have hfc:(F:Int)<=(sc:Int):=by omega
 clear hsb5 hd1 hd2 hd3 hd4 hv1 hv2 hv3 hv4 hch h hNN hXN hK hF hMN hI hn hrow hcr hce n0 n1 n2 n3 n5 hva hSN hscap;go_enter Tryz.func17,Tryz.ntmps17;go_wp2_with fail;refine(HCL.out w (bR _ w)).mono ?_;rintro e w1 ⟨ca,cc,rfl,hown1,hb1⟩;have HR1:Hid (aO w1 w.heap.size (.slice ca XN cc) nd.ctx):=Hd (by unfold aO;rw[<-Bd,<-HXN.out];exact hown1);have HB1:=Hd hb1;have d7:=(hb1.cell (p:=⟨sb,7,none⟩) (lt_of_cell c7)).trans c7;have d11:=(hb1.cell (p:=⟨sb,11,none⟩) (lt_of_cell c11)).trans c11;clear hown1 hb1;go_upto_region 3 with fail;go_cut [43,44,45]from 35 to 42 (fun s43 s44 s45 wx=>∃(az:Option Addr) (c2:Nat),s43=.slice az MN c2/\s44=.int .i64 MN/\s45=.int .i64 0/\wx=w1.drew/\∀g,sa=some ⟨g,0,none⟩->0<MN->az=some ⟨g,F*5,none⟩)
 case first=>
  have k3:w1.cell? ⟨sb,7,none⟩=some (.slice sa SN sc)/\w1.cell? ⟨sb,11,none⟩=some (.int .i64 F):=⟨d7,d11⟩;rcases HSA.out with rfl | ⟨g,rfl⟩
  ·have hs0:SN=0:=by
    rcases HHD.out.r.st.2 with⟨e1,e2⟩ | ⟨g1,c1,cur,e1,_⟩
    ·injection e1
    ·cases e1
   have hF0:F=0:=by omega
   have hM0:MN=0:=by omega
   subst hs0;subst hF0;subst hM0;refine rG (fun w'=>w'.cell? ⟨sb,7,none⟩=some (.slice none 0 sc)/\w'.cell? ⟨sb,11,none⟩=some (.int .i64 (0:Nat))) k3 fun hU=>?_;refine aM [0,1,2,3,4,5,6,7,8,9,10] ?_;refine dN ?_;go_wp2_with fail;go_meet;case rel=>exact⟨_,_,rfl,rfl,rfl,rfl,fun g e _=>by cases e⟩
  ·
   refine rG (fun w'=>w'.cell? ⟨sb,7,none⟩=some (.slice (some ⟨g,0,none⟩) SN sc)/\w'.cell? ⟨sb,11,none⟩=some (.int .i64 F)) k3 fun hU=>?_;refine aM [0,1,2,3,4,5,6,7,8,9,10] ?_;refine dN ?_;go_wp2_with fail;all_goals (go_meet;case rel=>exact⟨_,_,rfl,rfl,rfl,rfl,fun g e h0=>by first | omega | (cases e;rfl)⟩)
 obtain⟨wd,rfl⟩:∃x,x=wc:=⟨wc,rfl⟩;obtain⟨az,c2,rfl,rfl,rfl,rfl,hsl⟩:=hcut;obtain⟨w2,hw2⟩:=ex (w1.drew);rw[<-hw2];have HB2:Hid (Below w.heap.size w w2):=Hd (by rw[hw2];exact HB1.out.drew);have HR2:Hid (aO w2 w.heap.size (.slice ca XN cc) nd.ctx):=Hd (by rw[hw2];exact HR1.out);have HSL:=Hd hsl;clear hsl hw2 d7 d11 HR1 HB1 HSA HCL;go_wp2_with fail;go_loopw [45,6] (fun x1 x2 wr=>∃(i n:Nat) (ao:Option Addr) (co:Nat),x1=.int .i64 i/\x2=.slice ao n co/\i<=MN/\n=(mQ nd.ctx s.mine i).length/\aO wr w.heap.size (.slice ao n co) (mQ nd.ctx s.mine i)/\Below w.heap.size w wr) (fun x1 _ _=>MN-(intOf x1).toNat);case atStart=>exact⟨0,XN,ca,cc,rfl,rfl,Nat.zero_le _,HXN.out,HR2.out,HB2.out⟩
 case round=>
  obtain⟨wo,rfl⟩:∃y,y=wr:=⟨wr,rfl⟩;obtain⟨i,n,ao,co,rfl,rfl,hi1,hn1,hrow,hb⟩:=hrel;obtain⟨l,hl⟩:=ex (mQ nd.ctx s.mine i);rw[<-hl]at hn1 hrow;have hn128:n<=128:=by
   rw[hn1,hl];exact Nat.le_trans (HI.out.fold_len HN.out (fun y hy=>List.mem_of_mem_take hy)) hC
  have HL:=Hd hl;have HNL:=Hd hn1;have HROW:=Hd hrow;have HB:=Hd hb;have hbs:=hb.size;by_cases hiN:i<MN
  ·obtain⟨y,hy⟩:∃y,s.mine[i]? =some y:=⟨_,gE (by rw[<-HMN.out];exact hiN)⟩;obtain⟨g,va,vn,vc,hsa,hg,hvn,hvn2,hvr,q0,q1,q2,q3,q4⟩:=HCH.out i y hy;have haz:=HSL.out g hsa (by omega);subst haz;have HVN:=Hd hvn;have HVR:=Hd hvr;have HY:=Hd hy;have r0:=(hb.cell (p:=⟨g,F*5+i*5,none⟩) hg).trans q0;have r1:=(hb.cell (p:=⟨g,F*5+i*5+1,none⟩) hg).trans q1;have r2:=(hb.cell (p:=⟨g,F*5+i*5+2,none⟩) hg).trans q2;have r3:=(hb.cell (p:=⟨g,F*5+i*5+3,none⟩) hg).trans q3;have r4:=(hb.cell (p:=⟨g,F*5+i*5+4,none⟩) hg).trans q4;obtain⟨we,hwe⟩:=ex (wo.alloc (.cells #[.int .i64 y.node,.string (bs y.name),.slice va vn vc,.bool y.none,.int .i64 y.pos] 65));have hbe:Below wo.heap.size wo we:=by rw[hwe];exact(bR _ wo).alloc nL _
   have hze:we.heap.size=wo.heap.size+1:=by rw[hwe];exact sA _ _
   have hbox:∀W,Below we.heap.size we W->W.cell? ⟨wo.heap.size,1,none⟩=some (.string (bs y.name))/\W.cell? ⟨wo.heap.size,2,none⟩=some (.slice va vn vc)/\W.cell? ⟨wo.heap.size,4,none⟩=some (.int .i64 y.pos):=fun W hW=>
    ⟨(hW.cell (p:=⟨wo.heap.size,1,none⟩) (by show wo.heap.size<_;omega)).trans (by rw[hwe];exact aB rfl rfl),(hW.cell (p:=⟨wo.heap.size,2,none⟩) (by show wo.heap.size<_;omega)).trans (by rw[hwe];exact aB rfl rfl),(hW.cell (p:=⟨wo.heap.size,4,none⟩) (by show wo.heap.size<_;omega)).trans (by rw[hwe];exact aB rfl rfl)⟩
   obtain⟨b0,b1,b2⟩:=hbox we (bR _ we);have hrowe:aO we w.heap.size (.slice ao n co) l:=hrow.under hbe;obtain⟨tv,htv⟩:=ex (told l y.name);obtain⟨fa,fb,fc,fd,hfd⟩:∃va vb vc fd,Ku tv=.tuple #[.agg #[.int .i64 va,.int .i64 vb,.int .i64 vc],.bool fd]/\tv=if fd then some ⟨va,vb,vc⟩else none:=by
    cases tv with
    | none=>exact⟨0,0,0,false,rfl,rfl⟩
    | some v=>exact⟨v.a,v.b,v.c,true,rfl,rfl⟩
   have htold:=zT we (.slice ao n co) l hrowe.at (by omega) y.name;rw[<-htv,hfd.1]at htold;have HTD:=Hd htold;have HFD:=Hd hfd.2;have HTV:=Hd htv;have HBOX:=Hd hbox;have HBE:=Hd hbe;have HZE:=Hd hze;have HWE:=Hd hwe;have HRE:=Hd hrowe;have hiz:(i:Int)<(MN:Int):=by omega
   clear hfd htv hbox hbe hwe htold hvr hy hvn q0 q1 q2 q3 q4 hb hrow hn1 hl hrowe;go_upto_region 6 with fail;rw[<-HWE.out];go_wp2_with fail;refine HTD.out.mono ?_;rintro e wf ⟨rfl,hbf⟩;obtain⟨wg,hwg⟩:=ex (wf.alloc (.cells #[.int .i64 fa,.int .i64 fb,.int .i64 fc] 50));have hbg:Below we.heap.size we wg:=by rw[hwg];exact hbf.alloc hbf.size _
   obtain⟨p1,p2,p4⟩:=HBOX.out wg hbg;have HBG:=Hd hbg;have HWG:=Hd hwg;have HBGW:Hid (Below w.heap.size w wg):=Hd (HB.out.trans ((HBE.out.trans (hbg.mono (by have:=HZE.out;omega))).mono hbs));have HRG:Hid (aO wg w.heap.size (.slice ao n co) l):=Hd (HRE.out.under hbg);clear hbf hbg hwg r0 r1 r2 r3 r4 b0 b1 b2;go_upto_region 7 with fail;rw[<-HWG.out];cases fd
   ·by_cases hpz:y.pos<vn
    ·have hpi:(y.pos:Int)<(vn:Int):=by omega
     obtain⟨v,hv⟩:∃v,y.vs[y.pos]? =some v:=⟨_,gE (by rw[<-HVN.out];exact hpz)⟩;obtain⟨vb,vo,vcap,hve,hvc,hvb,hvu⟩:=RowZ.some HVR.out (by rw[lM,<-HVN.out];omega);have hva:va=some ⟨vb,vo,none⟩:=by injection hve
     subst hva;have hq:(y.vs.map aI)[y.pos]? =some (aI v):=by rw[gM,hv];rfl
     have u0:=(HBGW.out.cell (p:=⟨vb,vo+y.pos*3+0,none⟩) hvb).trans (hvu _ _ hq 0 _ rfl);have u1:=(HBGW.out.cell (p:=⟨vb,vo+y.pos*3+1,none⟩) hvb).trans (hvu _ _ hq 1 _ rfl);have u2:=(HBGW.out.cell (p:=⟨vb,vo+y.pos*3+2,none⟩) hvb).trans (hvu _ _ hq 2 _ rfl);rw[Nat.add_zero]at u0;obtain⟨vx,vy,vz⟩:=v;dsimp only at u0 u1 u2;have HNX:Hid (mQ nd.ctx s.mine (i+1)=l++[⟨y.name,⟨vx,vy,vz⟩⟩]):=Hd (by
      rw[oZ HY.out,<-HL.out];unfold bD Ch.pick;rw[<-HTV.out,HFD.out,hv];rfl)
     have hln:(l++[(⟨y.name,⟨vx,vy,vz⟩⟩:Pn)]).length=n+1:=by rw[lA,<-HNL.out];rfl
     have HLN:=Hd hln;have HVB:=Hd hvb;have hws:=HBGW.out.size;have hzo:wo.heap.size<wg.heap.size:=by have:=HBG.out.size;have:=HZE.out;omega
     have hvbz:vb<wg.heap.size:=by omega
     have k8:wg.cell? ⟨wo.heap.size,1,none⟩=some (.string (bs y.name))/\wg.cell? ⟨wo.heap.size,2,none⟩=some (.slice (some ⟨vb,vo,none⟩) vn vc)/\wg.cell? ⟨wo.heap.size,4,none⟩=some (.int .i64 y.pos)/\wg.cell? ⟨vb,vo+y.pos*3,none⟩=some (.int .i64 vx)/\wg.cell? ⟨vb,vo+y.pos*3+1,none⟩=some (.int .i64 vy)/\wg.cell? ⟨vb,vo+y.pos*3+2,none⟩=some (.int .i64 vz):=⟨p1,p2,p4,u0,u1,u2⟩;have hrg:=HRG.out;unfold aO at hrg;rw[<-HNL.out]at hrg;have hvow:(Value.slice ao n co).ownBlock=none\/(Value.slice ao n co).ownBlock≠some wo.heap.size:=by
      refine .inr fun e=>?_;have h1:=HROW.out;have:=(World.ownsRow.lt h1 wo.heap.size e).2;omega
     have hvbw:(Value.slice ao n co).ownBlock≠some vb:=fun e=>by
      have:=(World.ownsRow.lt hrg vb e).1;omega
     have hvow':(Value.slice ao n co).ownBlock≠some wo.heap.size:=fun e=>by
      have:=(World.ownsRow.lt HROW.out wo.heap.size e).2;omega
     obtain⟨wh,hwh⟩:=ex ((wg.alloc (.cells #[.string (bs y.name),.int .i64 vx,.int .i64 vy,.int .i64 vz] 101)).drew);have HROH:Hid (wh.ownsRow w.heap.size 101 4 (.slice ao n co) n (l.flatMap aG)):=Hd (by rw[hwh];exact World.ownsRow.drew (World.ownsRow.alloc hrg _));have HNBH:Hid (wh.heap[wg.heap.size]? =some (.cells #[.string (bs y.name),.int .i64 vx,.int .i64 vy,.int .i64 vz] 101 (0,0))):=Hd (by rw[hwh];exact heap_alloc_new wg _);have HSH:Hid (wh.heap.size=wg.heap.size+1):=Hd (by rw[hwh];exact sA _ _);have HBH:Hid (Below w.heap.size w wh):=Hd (by rw[hwh];exact(HBGW.out.alloc hws _).drew);have kH:wh.cell? ⟨wo.heap.size,1,none⟩=some (.string (bs y.name))/\wh.cell? ⟨wo.heap.size,2,none⟩=some (.slice (some ⟨vb,vo,none⟩) vn vc)/\wh.cell? ⟨wo.heap.size,4,none⟩=some (.int .i64 y.pos)/\wh.cell? ⟨vb,vo+y.pos*3,none⟩=some (.int .i64 vx)/\wh.cell? ⟨vb,vo+y.pos*3+1,none⟩=some (.int .i64 vy)/\wh.cell? ⟨vb,vo+y.pos*3+2,none⟩=some (.int .i64 vz):=by rw[hwh];exact⟨(aD (by show wo.heap.size<_;omega)).trans k8.1,(aD (by show wo.heap.size<_;omega)).trans k8.2.1,(aD (by show wo.heap.size<_;omega)).trans k8.2.2.1,(aD (by show vb<_;omega)).trans k8.2.2.2.1,(aD (by show vb<_;omega)).trans k8.2.2.2.2.1,(aD (by show vb<_;omega)).trans k8.2.2.2.2.2⟩
     have HWH:=Hd hwh;have hsh:=HSH.out;clear hwh u0 u1 u2 p1 p2 p4 hve hvu hq hv hrg hln hvb hvc;go_upto_region 8 with fail;refine rG (fun w'=>w'.cell? ⟨wo.heap.size,1,none⟩=some (.string (bs y.name))/\w'.cell? ⟨wo.heap.size,2,none⟩=some (.slice (some ⟨vb,vo,none⟩) vn vc)/\w'.cell? ⟨wo.heap.size,4,none⟩=some (.int .i64 y.pos)/\w'.cell? ⟨vb,vo+y.pos*3,none⟩=some (.int .i64 vx)/\w'.cell? ⟨vb,vo+y.pos*3+1,none⟩=some (.int .i64 vy)/\w'.cell? ⟨vb,vo+y.pos*3+2,none⟩=some (.int .i64 vz)) k8 fun hU=>?_;refine aM [0,1,2,3,4,5,6,7,8,9] ?_;refine rd 10 fun K hK=>?_;go_simp;rw[<-HWH.out];refine hK.out _ _ (kH) fun hU=>?_;clear hK K;(try simp only[lay]);refine rd 11 fun K hK=>?_;refine step_append_lies wh (by rfl) _ _ _ (by rfl) w.heap.size 101 ip (.agg #[.string ByteArray.empty,.int .i64 0,.int .i64 0,.int .i64 0]) 4 40 Tryz.underlying26 hip hp0 hp1 hp2 rfl (by decide) (.slice ao n co) n _ (by rfl) HROH.out ⟨wg.heap.size,0,none⟩ 1 1 [.string (bs y.name),.int .i64 vx,.int .i64 vy,.int .i64 vz] (by rfl) (by rfl) (World.news_of_block (cs:=#[.string (bs y.name),.int .i64 vx,.int .i64 vy,.int .i64 vz]) (t:=101) (fr:=(0,0)) HNBH.out) (by simp[Value.oneCell']) (by omega) (by unfold maxLen;omega) (by omega) (by have:=HSH.out;omega) (wg.heap.size+1) HSH.out ?_
     intro gn4 cn4 w4 hown4 hgrow4 hat4 hlt4;have kE:w4.cell? ⟨wo.heap.size,1,none⟩=some (.string (bs y.name))/\w4.cell? ⟨wo.heap.size,2,none⟩=some (.slice (some ⟨vb,vo,none⟩) vn vc)/\w4.cell? ⟨wo.heap.size,4,none⟩=some (.int .i64 y.pos)/\w4.cell? ⟨vb,vo+y.pos*3,none⟩=some (.int .i64 vx)/\w4.cell? ⟨vb,vo+y.pos*3+1,none⟩=some (.int .i64 vy)/\w4.cell? ⟨vb,vo+y.pos*3+2,none⟩=some (.int .i64 vz):=⟨(hgrow4.cell_far ⟨wo.heap.size,1,none⟩ (by show wo.heap.size<_;omega) (fun e=>hvow' e.symm)).trans kH.1,(hgrow4.cell_far ⟨wo.heap.size,2,none⟩ (by show wo.heap.size<_;omega) (fun e=>hvow' e.symm)).trans kH.2.1,(hgrow4.cell_far ⟨wo.heap.size,4,none⟩ (by show wo.heap.size<_;omega) (fun e=>hvow' e.symm)).trans kH.2.2.1,(hgrow4.cell_far ⟨vb,vo+y.pos*3,none⟩ (by show vb<_;omega) (fun e=>hvbw e.symm)).trans kH.2.2.2.1,(hgrow4.cell_far ⟨vb,vo+y.pos*3+1,none⟩ (by show vb<_;omega) (fun e=>hvbw e.symm)).trans kH.2.2.2.2.1,(hgrow4.cell_far ⟨vb,vo+y.pos*3+2,none⟩ (by show vb<_;omega) (fun e=>hvbw e.symm)).trans kH.2.2.2.2.2⟩
     have HO4:=Hd hown4;have HGR4:=Hd hgrow4;clear hown4 hgrow4 hat4;refine hK.out _ _ (kE) fun hU=>?_;clear hK K;refine aM [12] ?_;refine dN ?_;have HB4:Hid (Below w.heap.size w w4):=Hd (HBH.out.grown HGR4.out (by have:=HSH.out;omega) (fun g hg=>(HROH.out.lt g hg).1));have HR4:Hid (aO w4 w.heap.size (.slice (some ⟨gn4,0,none⟩) (n+1) cn4) (mQ nd.ctx s.mine (i+1))):=Hd (by
      unfold aO;rw[HNX.out,HLN.out,List.flatMap_append];have:=HO4.out;simpa[aG,sv]using this)
     clear k8 kH;go_wp2;go_roundw;case rel=>exact⟨i+1,n+1,some ⟨gn4,0,none⟩,cn4,by go_num,rfl,by omega,by rw[HNX.out,HLN.out],HR4.out,HB4.out⟩
     case measure=>simp[intOf];omega
    ·have hpi:¬(y.pos:Int)<(vn:Int):=by omega
     have HNX:Hid (mQ nd.ctx s.mine (i+1)=l):=Hd (by
      rw[oZ HY.out,<-HL.out];unfold bD Ch.pick;rw[<-HTV.out,HFD.out,List.getElem?_eq_none (by rw[<-HVN.out];omega)];rfl)
     go_wp2;go_roundw;case rel=>exact⟨i+1,n,ao,co,by go_num,rfl,by omega,by rw[HNX.out];exact HNL.out,by rw[HNX.out];exact HRG.out,HBGW.out⟩
     case measure=>simp[intOf];omega
   ·have HNX:Hid (mQ nd.ctx s.mine (i+1)=l):=Hd (by
     rw[oZ HY.out,<-HL.out];unfold bD;rw[<-HTV.out,HFD.out];rfl)
    go_wp2;go_roundw;case rel=>exact⟨i+1,n,ao,co,by go_num,rfl,by omega,by rw[HNX.out];exact HNL.out,by rw[HNX.out];exact HRG.out,HBGW.out⟩
    case measure=>simp[intOf];omega
  ·have hi2:i=MN:=by omega
   subst hi2;obtain⟨E,hE⟩:=ex (fQ l);have hEl:fM nd.ctx s.mine=E:=by
    rw[hE,hl];unfold fM mQ;rw[HMN.out,List.take_of_length_le nL]
   have hfh:=HI.out.fold_has HN.out (l:=s.mine.take i) (fun y hy=>List.mem_of_mem_take hy);have hEk:∀q∈E,bA f.C q.name q.v=true:=fun q hq=>by
    rw[hE]at hq;have:=(bW (·.name) l).mem_iff.1 hq;rw[hl]at this;exact hfh.2 q this
   have hEn:E.length=n:=by rw[hE,hn1];exact(bW (·.name) l).length_eq
   have hsort:=Eo (S:=fQ l) (by have:=hrow;unfold aO at this;exact this) (bW (·.name) l).symm (fB _ (by rw[hl];exact hfh.1)) (by omega);rw[<-hE]at hsort;have HSO:=Hd hsort;have HEL:=Hd hEl;have HEK:=Hd hEk;have HEN:=Hd hEn;have hiz:¬(i:Int)<(i:Int):=by omega
   clear hsort hE hEl hfh hEk hEn hl hn1 hrow hb hiN;go_wp2_with fail;refine HSO.out.mono ?_;rintro e w5 ⟨rfl,hrow5,hgr5⟩;have HR5:Hid (aO w5 w.heap.size (.slice ao n co) E):=Hd hrow5;have HB5:Hid (Below w.heap.size w w5):=Hd (HB.out.grown hgr5 hbs (fun g hg=>(World.ownsRow.lt HROW.out g hg).1));clear hrow5 hgr5;go_wp2_with fail;go_loopw [83,11] (fun x1 x2 wr=>∃(j:Nat) (ta:Option Addr) (tq:Nat) (ts:List Nd) (tc:List (Value×Value)),x1=.int .i64 j/\x2=.slice ta j tq/\j<=n/\j=ts.length/\targets f.pb E (E.take j)=some ts/\Tg wr w.heap.size (.slice ta j tq) ts tc/\aO wr w.heap.size (.slice ao n co) E/\Below w.heap.size w wr) (fun x1 _ _=>n-(intOf x1).toNat);case atStart=>exact⟨0,none,0,[],[],rfl,rfl,Nat.zero_le _,rfl,rfl,Tg.nil _ _,HR5.out,HB5.out⟩
   case round=>
    obtain⟨wo,rfl⟩:∃y,y=wr:=⟨wr,rfl⟩;obtain⟨j,ta,tq,ts,tc,rfl,rfl,hj1,hjt,htg,hts,hrow,hb⟩:=hrel;have hbs2:=hb.size;have HJT:=Hd hjt;have HTG:=Hd htg;have HTS:=Hd hts;have HROW:=Hd hrow;have HB:=Hd hb;by_cases hjn:j<n
    ·have hjz:(j:Int)<(n:Int):=by omega
     obtain⟨p,hp⟩:∃p,E[j]? =some p:=⟨_,gE (by rw[HEN.out];exact hjn)⟩;have hr3:wo.ownsRow w.heap.size 101 4 (.slice ao n co) n (E.flatMap aG):=by have:=hrow;unfold aO at this;rwa[HEN.out]at this
     obtain⟨ga,ca2,hga,hga1,hga2⟩:=eU hr3 (by omega);have hao:ao=some ⟨ga,0,none⟩:=by injection hga
     subst hao;have hcell:∀u,u<4->wo.cell? ⟨ga,j*4+u,none⟩=(aG p)[u]?:=fun u hu=>by
      have hall:=World.ownsRow.cellAt hr3 (j*4+u) (by omega);rw[hall,eG kQ (by decide) E _ (by rw[HEN.out];omega)];rw[show(j*4+u)/4=j by omega,show(j*4+u)%4=u by omega];have:E[j]! =p:=by
       obtain⟨h1,h2⟩:=gS hp;rw[getElem!_pos E j h1,h2]
      rw[this]
     have q0:=hcell 0 (by decide);have q1:=hcell 1 (by decide);have q2:=hcell 2 (by decide);have q3:=hcell 3 (by decide);have hpk:=HEK.out p (mG hp);have HP:=Hd hp;have HPK:=Hd hpk;obtain⟨pn,⟨pa,pb,pc⟩⟩:=p;simp only[aG,sv,gZ,List.getElem?_cons_succ,Nat.add_zero]at q0 q1 q2 q3;obtain⟨we,hwe⟩:=ex (wo.alloc (.cells #[.string (bs pn),.int .i64 pa,.int .i64 pb,.int .i64 pc] 101));have hbe:Below wo.heap.size wo we:=by rw[hwe];exact(bR _ wo).alloc nL _
     have hze:we.heap.size=wo.heap.size+1:=by rw[hwe];exact sA _ _
     have hbwe:Below w.heap.size w we:=hb.trans (hbe.mono hbs2);have hsbl:sb<w.heap.size:=lt_of_cell c7;have hbox:∀W,Below we.heap.size we W->W.cell? ⟨wo.heap.size,0,none⟩=some (.string (bs pn))/\W.cell? ⟨wo.heap.size,1,none⟩=some (.int .i64 pa)/\W.cell? ⟨wo.heap.size,2,none⟩=some (.int .i64 pb)/\W.cell? ⟨wo.heap.size,3,none⟩=some (.int .i64 pc):=fun W hW=>
      ⟨(hW.cell (p:=⟨wo.heap.size,0,none⟩) (by show wo.heap.size<_;omega)).trans (by rw[hwe];exact aB rfl rfl),(hW.cell (p:=⟨wo.heap.size,1,none⟩) (by show wo.heap.size<_;omega)).trans (by rw[hwe];exact aB rfl rfl),(hW.cell (p:=⟨wo.heap.size,2,none⟩) (by show wo.heap.size<_;omega)).trans (by rw[hwe];exact aB rfl rfl),(hW.cell (p:=⟨wo.heap.size,3,none⟩) (by show wo.heap.size<_;omega)).trans (by rw[hwe];exact aB rfl rfl)⟩
     obtain⟨b0,b1,b2,b3⟩:=hbox we (bR _ we);have k15:we.cell? ⟨sb,0,none⟩=some (.pointer (some ⟨f.s,0,none⟩))/\we.cell? ⟨sb,1,none⟩=some (.slice a1 d1 m1)/\we.cell? ⟨sb,2,none⟩=some (.slice a2 d2 m2)/\we.cell? ⟨sb,3,none⟩=some (.slice a3 d3 m3)/\we.cell? ⟨sb,4,none⟩=some (.slice a4 d4 m4)/\we.cell? ⟨wo.heap.size,0,none⟩=some (.string (bs pn))/\we.cell? ⟨wo.heap.size,1,none⟩=some (.int .i64 pa)/\we.cell? ⟨wo.heap.size,2,none⟩=some (.int .i64 pb)/\we.cell? ⟨wo.heap.size,3,none⟩=some (.int .i64 pc):=⟨(hbwe.cell (p:=⟨sb,0,none⟩) hsbl).trans HSB5.out.1,(hbwe.cell (p:=⟨sb,1,none⟩) hsbl).trans HSB5.out.2.1,(hbwe.cell (p:=⟨sb,2,none⟩) hsbl).trans HSB5.out.2.2.1,(hbwe.cell (p:=⟨sb,3,none⟩) hsbl).trans HSB5.out.2.2.2.1,(hbwe.cell (p:=⟨sb,4,none⟩) hsbl).trans HSB5.out.2.2.2.2,b0,b1,b2,b3⟩;obtain⟨R2,hR2⟩:=ex (ctxOf f.C f.m E ⟨pn,⟨pa,pb,pc⟩⟩)
     have hct:=HCTX.out we.drew E (.slice (some ⟨ga,0,none⟩) n co) ⟨pn,⟨pa,pb,pc⟩⟩ hbwe.drew ((hrow.under hbe).under (bR _ we).drew) (by rw[HEN.out];omega) HEK.out hpk;rw[<-hR2]at hct;dsimp only at hct;have HCT:=Hd hct;have HR2':=Hd hR2;have HBOX:=Hd hbox;have HBE:=Hd hbe;have HZE:=Hd hze;have HWE:=Hd hwe;have HBWE:=Hd hbwe;clear hct hR2 hbox hbe hwe hbwe hrow hts htg hjt hb hp hpk hcell hr3 b0 b1 b2 b3;go_upto_region 15 with fail;rw[<-HWE.out];refine rG (fun w'=>w'.cell? ⟨sb,0,none⟩=some (.pointer (some ⟨f.s,0,none⟩))/\w'.cell? ⟨sb,1,none⟩=some (.slice a1 d1 m1)/\w'.cell? ⟨sb,2,none⟩=some (.slice a2 d2 m2)/\w'.cell? ⟨sb,3,none⟩=some (.slice a3 d3 m3)/\w'.cell? ⟨sb,4,none⟩=some (.slice a4 d4 m4)/\w'.cell? ⟨wo.heap.size,0,none⟩=some (.string (bs pn))/\w'.cell? ⟨wo.heap.size,1,none⟩=some (.int .i64 pa)/\w'.cell? ⟨wo.heap.size,2,none⟩=some (.int .i64 pb)/\w'.cell? ⟨wo.heap.size,3,none⟩=some (.int .i64 pc)) k15 fun hU=>?_
     refine aM [0,1,2,3,4,5,6,7,8,9] ?_;refine rd 10 fun K hK=>?_;go_simp;go_at_call 42;refine HCT.out.mono ?_;intro e wf hcs;obtain⟨xa2,xn2,ok,rfl,hbf,hok⟩:=Np hcs;have hdz:we.drew.heap.size=we.heap.size:=rfl;have HBF:Hid (Below we.heap.size we wf):=Hd ((bR _ we).drew.trans hbf);have HOK:=Hd hok;have kC:wf.cell? ⟨sb,0,none⟩=some (.pointer (some ⟨f.s,0,none⟩))/\wf.cell? ⟨sb,1,none⟩=some (.slice a1 d1 m1)/\wf.cell? ⟨sb,2,none⟩=some (.slice a2 d2 m2)/\wf.cell? ⟨sb,3,none⟩=some (.slice a3 d3 m3)/\wf.cell? ⟨sb,4,none⟩=some (.slice a4 d4 m4)/\wf.cell? ⟨wo.heap.size,0,none⟩=some (.string (bs pn))/\wf.cell? ⟨wo.heap.size,1,none⟩=some (.int .i64 pa)/\wf.cell? ⟨wo.heap.size,2,none⟩=some (.int .i64 pb)/\wf.cell? ⟨wo.heap.size,3,none⟩=some (.int .i64 pc):=⟨(HBF.out.cell (p:=⟨sb,0,none⟩) (by show sb<_;have:=HZE.out;omega)).trans k15.1,(HBF.out.cell (p:=⟨sb,1,none⟩) (by show sb<_;have:=HZE.out;omega)).trans k15.2.1,(HBF.out.cell (p:=⟨sb,2,none⟩) (by show sb<_;have:=HZE.out;omega)).trans k15.2.2.1,(HBF.out.cell (p:=⟨sb,3,none⟩) (by show sb<_;have:=HZE.out;omega)).trans k15.2.2.2.1,(HBF.out.cell (p:=⟨sb,4,none⟩) (by show sb<_;have:=HZE.out;omega)).trans k15.2.2.2.2.1,(HBF.out.cell (p:=⟨wo.heap.size,0,none⟩) (by show wo.heap.size<_;have:=HZE.out;omega)).trans k15.2.2.2.2.2.1,(HBF.out.cell (p:=⟨wo.heap.size,1,none⟩) (by show wo.heap.size<_;have:=HZE.out;omega)).trans k15.2.2.2.2.2.2.1,(HBF.out.cell (p:=⟨wo.heap.size,2,none⟩) (by show wo.heap.size<_;have:=HZE.out;omega)).trans k15.2.2.2.2.2.2.2.1,(HBF.out.cell (p:=⟨wo.heap.size,3,none⟩) (by show wo.heap.size<_;have:=HZE.out;omega)).trans k15.2.2.2.2.2.2.2.2⟩
     have HBWF:Hid (Below w.heap.size w wf):=Hd (HBWE.out.trans (HBF.out.mono HBWE.out.size));clear hcs hbf hok;refine hK.out _ _ (kC) fun hU=>?_;clear hK K;refine aM [11,12,13,14,15] ?_;refine dN ?_;have hwz:=HBWF.out.size;have hzf:wo.heap.size<wf.heap.size:=by have:=HBF.out.size;have:=HZE.out;omega
     obtain⟨b0,b1,b2,b3⟩:=HBOX.out wf HBF.out;clear k15 kC q0 q1 q2 q3;rcases HOK.out with⟨rfl,hr⟩ | ⟨rfl,cx,cc2,hr,hxn,hpr⟩
     ·have HRB:Hid (R=.bad):=Hd (by
       rw[HR.out];unfold dD;rw[HEL.out];have h1:=HP.out;have h2:E=E.take j++⟨pn,⟨pa,pb,pc⟩⟩::E.drop (j+1):=by
        have h3:=(gS h1);rw[<-h3.2,<-List.drop_eq_getElem_cons h3.1,List.take_append_drop]
       have h4:targets f.pb E E=none:=by
        have:=sF (P:=f.pb) (env:=E) (p:=⟨pn,⟨pa,pb,pc⟩⟩) (by rw[<-hr,HR2'.out];rfl) (E.take j) (E.drop (j+1));rwa[<-h2]at this
       rw[h4])
      clear hr;go_wp2;go_returns;rw[HRB.out];unfold wK;dsimp only;rw[<-HF.out];exact⟨rfl,HBWF.out.mono (Nat.le_of_lt HHD.out.size),HHD.out.grow HBWF.out⟩
     ·have HCX:Hid (f.pb.ctxOf E ⟨pn,⟨pa,pb,pc⟩⟩=some cx):=Hd (by rw[<-hr,HR2'.out];rfl);have HXNN:=Hd hxn;have hbw2:=HBWF.out;have HPR:Hid (aO wf w.heap.size (.slice xa2 xn2 cc2) cx):=Hd (dI hpr (by show w.heap.size<=we.heap.size;exact HBWE.out.size));have HTG2:Hid (Tg wf w.heap.size (.slice ta j tq) ts tc):=Hd ((HTS.out.under HBE.out).under HBF.out);have HRW2:Hid (aO wf w.heap.size (.slice (some ⟨ga,0,none⟩) n co) E):=Hd ((HROW.out.under HBE.out).under HBF.out);obtain⟨wg,hwg⟩:=ex (wf.alloc (.cells #[.string (bs pn),.int .i64 pa,.int .i64 pb,.int .i64 pc,.slice xa2 xn2 xn2,.slice none 0 0] 57));have hbg:Below wf.heap.size wf wg:=by rw[hwg];exact(bR _ wf).alloc nL _
      have HTG3:Hid (Tg wg w.heap.size (.slice ta j tq) ts tc):=Hd (HTG2.out.under hbg);have HRW3:Hid (aO wg w.heap.size (.slice (some ⟨ga,0,none⟩) n co) E):=Hd (HRW2.out.under hbg);have HPR3:Hid (aO wg w.heap.size (.slice xa2 xn2 cc2) cx):=Hd (HPR.out.under hbg);have HNBG:Hid (wg.heap[wf.heap.size]? =some (.cells #[.string (bs pn),.int .i64 pa,.int .i64 pb,.int .i64 pc,.slice xa2 xn2 xn2,.slice none 0 0] 57 (0,0))):=Hd (by rw[hwg];exact heap_alloc_new wf _);have HSG:Hid (wg.heap.size=wf.heap.size+1):=Hd (by rw[hwg];exact sA _ _);have HBWG:Hid (Below w.heap.size w wg):=Hd (hbw2.trans (hbg.mono hwz));have hrg:=HTG3.out.row;rw[<-HJT.out]at hrg;have HRG:=Hd hrg;have HWG:=Hd hwg;clear hwg hbg hrg hpr hr hxn hbw2;go_wp2_with (at_builtin;rw[<-HWG.out];refine wpList_append_lies wg rfl _ _ 33 rfl w.heap.size 57 iq (.agg #[.string ByteArray.empty,.int .i64 0,.int .i64 0,.int .i64 0,.slice none 0 0,.slice none 0 0]) 6 88 Tryz.underlying33 hiq hq0 hq1 hq2 rfl (by decide) (.slice ta j tq) j _ (by rfl) HRG.out ⟨wf.heap.size,0,none⟩ 1 1 [.string (bs pn),.int .i64 pa,.int .i64 pb,.int .i64 pc,.slice xa2 xn2 xn2,.slice none 0 0] (by rfl) (by rfl) (World.news_of_block (cs:=#[.string (bs pn),.int .i64 pa,.int .i64 pb,.int .i64 pc,.slice xa2 xn2 xn2,.slice none 0 0]) (t:=57) (fr:=(0,0)) HNBG.out) (by simp[Value.oneCell']) (by omega) (by unfold maxLen;omega) (by omega) (by have:=HSG.out;omega) (wf.heap.size+1) HSG.out ?_;intro g4 c4 w4 hown4 hgrow4 hat4 hlt4)
      have HTG4:Hid (Tg w4 w.heap.size (.slice (some ⟨g4,0,none⟩) (j+1) c4) (ts++[⟨pn,⟨pa,pb,pc⟩,cx,[]⟩]) (tc++[(.slice xa2 xn2 xn2,.slice none 0 0)])):=Hd (HTG3.out.add hgrow4 (by rw[<-HJT.out];exact hown4) HXNN.out HPR3.out);have HRW4:Hid (aO w4 w.heap.size (.slice (some ⟨ga,0,none⟩) n co) E):=Hd (World.ownsRow.kept HRW3.out hgrow4 (aJ HRW3.out HRG.out (by decide)));have HB4:Hid (Below w.heap.size w w4):=Hd (HBWG.out.grown hgrow4 (by have:=HSG.out;omega) (fun g hg=>(HRG.out.lt g hg).1));have HTS4:Hid (targets f.pb E (E.take (j+1))=some (ts++[⟨pn,⟨pa,pb,pc⟩,cx,[]⟩])):=Hd (by
       rw[List.take_add_one,HP.out];exact pQ HCX.out HTG.out)
      clear hown4 hgrow4 hat4 hlt4;go_wp2;go_roundw;case rel=>exact⟨j+1,_,_,_,_,by go_num,rfl,by omega,by rw[lA,<-HJT.out];rfl,HTS4.out,HTG4.out,HRW4.out,HB4.out⟩
      case measure=>simp[intOf];omega
    ·have hjz:¬(j:Int)<(n:Int):=by omega
     have hTE:targets f.pb E E=some ts:=by
      have:=htg;rwa[List.take_of_length_le (by rw[HEN.out];omega)]at this
     have HRL:Hid (R=match link most s.nodes ts with | none=> .many | some y=> .ok y.1 y.2):=Hd (by
      rw[HR.out];unfold dD;rw[HEL.out,hTE];rfl)
     have hsbl:sb<w.heap.size:=lt_of_cell c7;have e8:=(hb.cell (p:=⟨sb,8,none⟩) hsbl).trans c8;have HTX:Hid (∀(i:Nat) x,ts[i]? =some x->x.edges=[]/\x.ctx.length<=128):=Hd (fun i x hx=>by
      obtain⟨h1,h2⟩:=iL htg;obtain⟨p,hp⟩:∃p,(E.take j)[i]? =some p:=⟨_,gE (by rw[<-h1];exact(gS hx).1)⟩;obtain⟨c,hc,hct⟩:=h2 i p hp;rw[hx]at hc;cases hc;refine⟨rfl,?_⟩;have h3:=iY hct;have:=gG c E (aX _ h3.1) h3.2.1;have:=HEN.out;show c.length<=128;omega)
     have HLK0:=Hd (Lk.start HHD.out hb hts);have hj128:j<=128:=by omega
     have hmost:=HI.out.nm;have HMO:Hid (s.nodes.length<=most):=Hd hmost;have HNC:Hid (∀y∈s.nodes,y.ctx.length<=128):=Hd (fun y hy=>by
      obtain⟨q,hq,rfl⟩:=eI.1 hy;exact Nat.le_trans (HI.out.ctx_len (gE hq)) hC)
     clear hTE htg hts hrow hb hjt hmost hjn;go_wp2_with fail;go_loopw [120,17] (fun x1 x2 wr=>∃(i:Nat) (ea:Option Addr) (ec:Nat) (es:List Eg) (more:List Nd) (mc:List (Value×Value)) (vn':Value),x1=.int .i64 i/\x2=.slice ea i ec/\i<=j/\i=es.length/\(s.nodes++more).length<=most/\(∀y∈s.nodes++more,y.ctx.length<=128)/\link most s.nodes ts=(link most (s.nodes++more) (ts.drop i)).map (fun y=>(y.1,es++y.2))/\Lk w base sb gn f s (.slice sa SN sc) (.slice aa K ac) vw (.int .i64 F) ce (.slice ta j tq) ts tc wr vn' more mc (.slice ea i ec) es) (fun x1 _ _=>j-(intOf x1).toNat);case atStart=>exact⟨0,none,0,[],[],[],_,rfl,rfl,Nat.zero_le _,rfl,by simpa using HMO.out,by rw[List.append_nil];exact HNC.out,by simp,HLK0.out⟩
     case round=>
      obtain⟨wp,rfl⟩:∃y,y=wr:=⟨wr,rfl⟩;obtain⟨i,ea,ec,es,more,mc,vn',rfl,rfl,hij,hie2,hmo,hcl,hli,hlk⟩:=hrel;obtain⟨na,nc2,hvn2⟩:=aC hlk.nd;obtain⟨L,hL⟩:=ex ((s.nodes++more).length);rw[<-hL]at hvn2 hmo;subst hvn2;have HCL2:=Hd hcl;have HLI:=Hd hli;have HIE:=Hd hie2;have HLK:=Hd hlk;have HLL:=Hd hL;have hwz:w.heap.size<=wp.heap.size:=hlk.bel.size;have hspz:sb<wp.heap.size:=hlk.k.lt;by_cases hij2:i<j
      ·have hiz2:(i:Int)<(j:Int):=by omega
       obtain⟨x,hx⟩:∃x,ts[i]? =some x:=⟨_,gE (by rw[<-HJT.out];exact hij2)⟩;obtain⟨g2,cap2,xa3,xn3,xc3,e1,hg2,hg3,hxn3,hpx,q0,q1,q2,q3,q4,q5⟩:=hlk.tg.at hx;rw[<-HJT.out]at e1;have e1':ta=some ⟨g2,0,none⟩:=by injection e1
       subst e1';have HX:=Hd hx;have HXN3:=Hd hxn3;obtain⟨xn,⟨va,vb,vc⟩,xctx,xes⟩:=x;dsimp only at q0 q1 q2 q3 hxn3 hpx;unfold sv at q0;obtain⟨hxes,hxl⟩:=HTX.out i _ hx;dsimp only at hxes hxl;subst hxes;obtain⟨we,hwe⟩:=ex (wp.alloc (.cells #[.string (bs xn),.int .i64 va,.int .i64 vb,.int .i64 vc,.slice xa3 xn3 xn3,.slice none 0 0] 57));have hbe:Below wp.heap.size wp we:=by rw[hwe];exact(bR _ wp).alloc nL _
       have hze:we.heap.size=wp.heap.size+1:=by rw[hwe];exact sA _ _
       have hbox:∀W,Below we.heap.size we W->W.cell? ⟨wp.heap.size,0,none⟩=some (.string (bs xn))/\W.cell? ⟨wp.heap.size,1,none⟩=some (.int .i64 va)/\W.cell? ⟨wp.heap.size,2,none⟩=some (.int .i64 vb)/\W.cell? ⟨wp.heap.size,3,none⟩=some (.int .i64 vc)/\W.cell? ⟨wp.heap.size,4,none⟩=some (.slice xa3 xn3 xn3)/\W.cell? ⟨wp.heap.size,5,none⟩=some (.slice none 0 0):=fun W hW=>
        ⟨(hW.cell (p:=⟨wp.heap.size,0,none⟩) (by show wp.heap.size<_;omega)).trans (by rw[hwe];exact aB rfl rfl),(hW.cell (p:=⟨wp.heap.size,1,none⟩) (by show wp.heap.size<_;omega)).trans (by rw[hwe];exact aB rfl rfl),(hW.cell (p:=⟨wp.heap.size,2,none⟩) (by show wp.heap.size<_;omega)).trans (by rw[hwe];exact aB rfl rfl),(hW.cell (p:=⟨wp.heap.size,3,none⟩) (by show wp.heap.size<_;omega)).trans (by rw[hwe];exact aB rfl rfl),(hW.cell (p:=⟨wp.heap.size,4,none⟩) (by show wp.heap.size<_;omega)).trans (by rw[hwe];exact aB rfl rfl),(hW.cell (p:=⟨wp.heap.size,5,none⟩) (by show wp.heap.size<_;omega)).trans (by rw[hwe];exact aB rfl rfl)⟩
       have hbx:=hbox we (bR _ we);have hlke:=hlk.grow hbe;have hpxe:=hpx.under hbe;have hpins:bN we we.heap.size (.slice xa3 xctx.length xn3) xctx:=by
        have:=hpxe.at;rw[<-hxn3];exact RowZ.clip this
       have hpl:=Pf (hlke.rows HHD.out) wp.heap.size ⟨xn,⟨va,vb,vc⟩,xctx,[]⟩ xa3 xn3 hpins (by show(s.nodes++more).length<=_;omega) (fun y hy=>Nat.le_trans (hcl y hy) (by decide)) (by show xctx.length<=_;omega) hbx.1 hbx.2.1 hbx.2.2.1 hbx.2.2.2.1 (by rw[<-hxn3];exact hbx.2.2.2.2.1);have HPL:=Hd hpl;have HBOX:=Hd hbox;have HBE:=Hd hbe;have HZE:=Hd hze;have HWE:=Hd hwe;have HLKE:=Hd hlke;have HPXE:=Hd hpxe;have d8:we.cell? ⟨sb,8,none⟩=some (.slice na L nc2):=hlke.k.cell 8;have HNBX:Hid (∀g,(Value.slice na L nc2).ownBlock=some g->g<wp.heap.size):=Hd (fun g hg=>(hlk.nd.lt g hg).2);clear hpl hbox hbe hwe hlke hpxe hlk hcl hli hx hpx hbx hie2 hL hxn3;go_upto_region 25 with fail;rw[<-HWE.out];go_wp2_with fail;refine HPL.out.mono ?_;rintro e wf ⟨rfl,hbf⟩;have HLKF:=Hd (HLKE.out.grow hbf);have HPXF:=Hd (HPXE.out.under hbf);have hbx:=HBOX.out wf hbf
       obtain⟨b0,b1,b2,b3,b4,b5⟩:=hbx;have hfz2:wp.heap.size+1<=wf.heap.size:=by have:=hbf.size;have:=HZE.out;omega
       have e8':wf.cell? ⟨sb,8,none⟩=some (.slice na L nc2):=HLKF.out.k.cell 8;obtain⟨pq,hpq⟩:=ex (place (s.nodes++more) ⟨xn,⟨va,vb,vc⟩,xctx,[]⟩);rw[<-hpq];have HPQ:=Hd hpq.symm;clear hbf hpq q0 q1 q2 q3 q4 q5 d8;cases pq with
       | some q=>
        have hz0:¬(q:Int)<0:=by omega
        have hz1:Uz (some q)=(q:Int):=rfl;rw[hz1];clear hz1;have HLIN:Hid (link most s.nodes ts=(link most (s.nodes++more) (ts.drop (i+1))).map (fun y=>(y.1,(es++[⟨xn,q⟩])++y.2))):=Hd (by
         rw[HLI.out,List.drop_eq_getElem_cons (gS HX.out).1,(gS HX.out).2,Dj HPQ.out,Option.map_map];congr 1;funext y;simp)
        obtain⟨wg,hwg⟩:=ex (wf.alloc (.cells #[.string (bs xn),.int .i64 (q:Int)] 111));have hbg:Below wf.heap.size wf wg:=by rw[hwg];exact(bR _ wf).alloc nL _
        have HLKG:=Hd (HLKF.out.grow hbg);have HNBG:Hid (wg.heap[wf.heap.size]? =some (.cells #[.string (bs xn),.int .i64 (q:Int)] 111 (0,0))):=Hd (by rw[hwg];exact heap_alloc_new wf _);have HSG:Hid (wg.heap.size=wf.heap.size+1):=Hd (by rw[hwg];exact sA _ _);have hrg:=HLKG.out.eg;rw[<-HIE.out]at hrg;have HRG:=Hd hrg;have HWG:=Hd hwg;have hwzg:w.heap.size<=wf.heap.size:=by omega
        clear hwg hbg hrg;go_wp2_with (at_builtin;rw[<-HWG.out];refine wpList_append_lies wg rfl _ _ 55 rfl w.heap.size 111 ie (.agg #[.string ByteArray.empty,.int .i64 0]) 2 24 Tryz.underlying55 hie he0 he1 he2 rfl (by decide) (.slice ea i ec) i _ (by rfl) HRG.out ⟨wf.heap.size,0,none⟩ 1 1 [.string (bs xn),.int .i64 (q:Int)] (by rfl) (by rfl) (World.news_of_block (cs:=#[.string (bs xn),.int .i64 (q:Int)]) (t:=111) (fr:=(0,0)) HNBG.out) (by simp[Value.oneCell']) (by omega) (by unfold maxLen;omega) (by omega) (by have:=HSG.out;omega) (wf.heap.size+1) HSG.out ?_;intro g5 c5 w5 hown5 hgrow5 hat5 hlt5);have HLK5:=Hd (HLKG.out.edge (e:=⟨xn,q⟩) (ve':=.slice (some ⟨g5,0,none⟩) (i+1) c5) hgrow5 (by rw[<-HIE.out];exact hown5));clear hown5 hgrow5 hat5 hlt5;go_wp2;go_roundw;case rel=>exact⟨i+1,some ⟨g5,0,none⟩,c5,es++[⟨xn,q⟩],more,mc,.slice na L nc2,by go_num,rfl,by omega,by rw[lA,<-HIE.out];rfl,by rw[<-HLL.out];exact hmo,HCL2.out,HLIN.out,HLK5.out⟩
        case measure=>simp[intOf];omega
       | none=>
        have hz1:Uz none= -1:=rfl;rw[hz1];clear hz1;have hz0:(-1:Int)<0:=by omega
        by_cases hlm:L=most
        ·have hlz:(L:Int)=(most:Int):=by omega
         have HRM:Hid (R=.many):=Hd (by
          rw[HRL.out,HLI.out,List.drop_eq_getElem_cons (gS HX.out).1,(gS HX.out).2,Im HPQ.out (by rw[<-HLL.out];exact hlm)];rfl)
         have HBF:=Hd HLKF.out.bel;have hlb:((L:Int)==(most:Int))=true:=by rw[hlz];exact beq_self_eq_true _
         clear hlm;go_wp2;go_returns;rw[HRM.out];exact⟨rfl,HBF.out⟩
        ·have hlz:¬(L:Int)=(most:Int):=by omega
         have hlb:((L:Int)==(most:Int))=false:=beq_eq_false_iff_ne.2 hlz;have HLM:=Hd hlm;have hL127:L<=127:=by omega
         go_upto_region 30 with fail;go_cut [144]from 145 to 153 (fun s144 wx=>s144=.pointer (some ⟨sb,0,none⟩)/\∃(g6 c6:Nat) (mc6:List (Value×Value)),Lk w base sb gn f s (.slice sa SN sc) (.slice aa K ac) vw (.int .i64 F) ce (.slice (some ⟨g2,0,none⟩) j tq) ts tc wx (.slice (some ⟨g6,0,none⟩) (L+1) c6) (more++[⟨xn,⟨va,vb,vc⟩,xctx,[]⟩]) mc6 (.slice ea i ec) es/\wx.cell? ⟨wp.heap.size,0,none⟩=some (.string (bs xn)))
         case first=>
          have k30:wf.cell? ⟨wp.heap.size,0,none⟩=some (.string (bs xn))/\wf.cell? ⟨wp.heap.size,1,none⟩=some (.int .i64 va)/\wf.cell? ⟨wp.heap.size,2,none⟩=some (.int .i64 vb)/\wf.cell? ⟨wp.heap.size,3,none⟩=some (.int .i64 vc)/\wf.cell? ⟨wp.heap.size,4,none⟩=some (.slice xa3 xn3 xn3)/\wf.cell? ⟨wp.heap.size,5,none⟩=some (.slice none 0 0):=⟨b0,b1,b2,b3,b4,b5⟩;obtain⟨wh,hwh⟩:=ex ((wf.alloc (.cells #[.string (bs xn),.int .i64 va,.int .i64 vb,.int .i64 vc,.slice xa3 xn3 xn3,.slice none 0 0] 57)).drew);have hbh:Below wf.heap.size wf wh:=by rw[hwh];exact((bR _ wf).alloc nL _).drew
          have HLKH:=Hd (HLKF.out.grow hbh);have HPXH:=Hd (HPXF.out.under hbh);have kH:wh.cell? ⟨wp.heap.size,0,none⟩=some (.string (bs xn))/\wh.cell? ⟨wp.heap.size,1,none⟩=some (.int .i64 va)/\wh.cell? ⟨wp.heap.size,2,none⟩=some (.int .i64 vb)/\wh.cell? ⟨wp.heap.size,3,none⟩=some (.int .i64 vc)/\wh.cell? ⟨wp.heap.size,4,none⟩=some (.slice xa3 xn3 xn3)/\wh.cell? ⟨wp.heap.size,5,none⟩=some (.slice none 0 0):=⟨(hbh.cell (p:=⟨wp.heap.size,0,none⟩) (by show wp.heap.size<_;omega)).trans b0,(hbh.cell (p:=⟨wp.heap.size,1,none⟩) (by show wp.heap.size<_;omega)).trans b1,(hbh.cell (p:=⟨wp.heap.size,2,none⟩) (by show wp.heap.size<_;omega)).trans b2,(hbh.cell (p:=⟨wp.heap.size,3,none⟩) (by show wp.heap.size<_;omega)).trans b3,(hbh.cell (p:=⟨wp.heap.size,4,none⟩) (by show wp.heap.size<_;omega)).trans b4,(hbh.cell (p:=⟨wp.heap.size,5,none⟩) (by show wp.heap.size<_;omega)).trans b5⟩
          have h8:wh.cell? ⟨sb,8,none⟩=some (.slice na L nc2):=HLKH.out.k.cell 8;have HNBH:Hid (wh.heap[wf.heap.size]? =some (.cells #[.string (bs xn),.int .i64 va,.int .i64 vb,.int .i64 vc,.slice xa3 xn3 xn3,.slice none 0 0] 57 (0,0))):=Hd (by rw[hwh];exact heap_alloc_new wf _);have hsh:wh.heap.size=wf.heap.size+1:=by rw[hwh];exact sA _ _
          have HSH:=Hd hsh;have hrh:=HLKH.out.nd;rw[<-HLL.out]at hrh;have HRH:=Hd hrh;have HWH:=Hd hwh;have hsbx:sb≠wp.heap.size:=by omega
          have hbw8:=HHD.out.size;have f8:=HLKH.out.k.soft 8;clear hwh hbh hrh b0 b1 b2 b3 b4 b5;refine rG (fun w'=>w'.cell? ⟨wp.heap.size,0,none⟩=some (.string (bs xn))/\w'.cell? ⟨wp.heap.size,1,none⟩=some (.int .i64 va)/\w'.cell? ⟨wp.heap.size,2,none⟩=some (.int .i64 vb)/\w'.cell? ⟨wp.heap.size,3,none⟩=some (.int .i64 vc)/\w'.cell? ⟨wp.heap.size,4,none⟩=some (.slice xa3 xn3 xn3)/\w'.cell? ⟨wp.heap.size,5,none⟩=some (.slice none 0 0)) k30 fun hU=>?_;refine aM [0,1,2,3,5] ?_;refine wpAnyH_ready (rs:=[4,6]) (by kernel_rfl) (by simp) ?_;refine AllReadyH.cons rfl (fun K hK=>?_) (AllReadyH.cons rfl (fun K hK=>?_) AllReadyH.nil);go_simp;refine hK.out _ _ (hU) fun hU=>?_;clear hK K;(try simp only[lay]);refine rd 6 fun K hK=>?_;go_simp;rw[<-HWH.out];refine hK.out _ _ (kH) fun hU=>?_
          rotate_left
          go_simp;rw[<-HWH.out];refine hK.out _ _ (kH) fun hU=>?_;clear hK K;(try simp only[lay]);refine rd 4 fun K hK=>?_;go_simp;refine hK.out _ _ (hU) fun hU=>?_
          rotate_left
          all_goals
           clear hK K;(try simp only[lay]);refine rd 7 fun K hK=>?_;refine step_append_lies wh (by rfl) _ _ _ (by rfl) base 57 iq (.agg #[.string ByteArray.empty,.int .i64 0,.int .i64 0,.int .i64 0,.slice none 0 0,.slice none 0 0]) 6 88 Tryz.underlying33 hiq hq0 hq1 hq2 rfl (by decide) (.slice na L nc2) L _ (by rfl) HRH.out ⟨wf.heap.size,0,none⟩ 1 1 [.string (bs xn),.int .i64 va,.int .i64 vb,.int .i64 vc,.slice xa3 xn3 xn3,.slice none 0 0] (by rfl) (by rfl) (World.news_of_block (cs:=#[.string (bs xn),.int .i64 va,.int .i64 vb,.int .i64 vc,.slice xa3 xn3 xn3,.slice none 0 0]) (t:=57) (fr:=(0,0)) HNBH.out) (by simp[Value.oneCell']) (by omega) (by unfold maxLen;omega) (by omega) (by have:=HSH.out;omega) (wf.heap.size+1) HSH.out ?_;intro g6 c6 w6 hown6 hgrow6 hat6 hlt6;have hnx:some wp.heap.size≠(Value.slice na L nc2).ownBlock:=fun e=>by have:=HNBX.out wp.heap.size e.symm;omega
           have hns:some sb≠(Value.slice na L nc2).ownBlock:=fun e=>bQ HRH.out HLKH.out.k (by decide) e.symm;have kE:w6.cell? ⟨wp.heap.size,0,none⟩=some (.string (bs xn))/\w6.cell? ⟨wp.heap.size,1,none⟩=some (.int .i64 va)/\w6.cell? ⟨wp.heap.size,2,none⟩=some (.int .i64 vb)/\w6.cell? ⟨wp.heap.size,3,none⟩=some (.int .i64 vc)/\w6.cell? ⟨wp.heap.size,4,none⟩=some (.slice xa3 xn3 xn3)/\w6.cell? ⟨wp.heap.size,5,none⟩=some (.slice none 0 0):=⟨(hgrow6.cell_far ⟨wp.heap.size,0,none⟩ (by show wp.heap.size<_;omega) hnx).trans kH.1,(hgrow6.cell_far ⟨wp.heap.size,1,none⟩ (by show wp.heap.size<_;omega) hnx).trans kH.2.1,(hgrow6.cell_far ⟨wp.heap.size,2,none⟩ (by show wp.heap.size<_;omega) hnx).trans kH.2.2.1,(hgrow6.cell_far ⟨wp.heap.size,3,none⟩ (by show wp.heap.size<_;omega) hnx).trans kH.2.2.2.1,(hgrow6.cell_far ⟨wp.heap.size,4,none⟩ (by show wp.heap.size<_;omega) hnx).trans kH.2.2.2.2.1,(hgrow6.cell_far ⟨wp.heap.size,5,none⟩ (by show wp.heap.size<_;omega) hnx).trans kH.2.2.2.2.2⟩
           have e86:=(hgrow6.cell_far ⟨sb,8,none⟩ (by show sb<_;omega) hns).trans h8;have f86:w6.frozen? ⟨sb,8,none⟩=false:=(World.frozen?_of_block (a:=⟨sb,8,none⟩) (hgrow6.block sb (by omega) hns)).trans f8;have HLK6:=Hd (HLKH.out.node (x:=⟨xn,⟨va,vb,vc⟩,xctx,[]⟩) (vn':=.slice (some ⟨g6,0,none⟩) (L+1) c6) hgrow6 (by rw[<-HLL.out];exact hown6) (fun k hk=>by
            have hk':g6=k:=Option.some.inj hk;rcases hat6 with h1 | h1
            ·exact .inl (by rw[<-hk'];exact h1)
            ·exact .inr (by rw[<-hk',h1,HSH.out];exact nL)) HHD.out.r.nl HXN3.out HPXH.out)
           clear hown6 hgrow6 hat6;refine hK.out _ _ (kE) fun hU=>?_;clear hK K;refine aM [8,9] ?_;refine rd 10 fun K hK=>?_;go_simp;refine hK.out _ _ (⟨(cO).trans kE.1,(cO).trans kE.2.1,(cO).trans kE.2.2.1,(cO).trans kE.2.2.2.1,(cO).trans kE.2.2.2.2.1,(cO).trans kE.2.2.2.2.2⟩) fun hU=>?_;clear hK K;(try simp only[lay]);refine dN ?_;go_wp2_with fail;go_meet;case rel=>exact⟨rfl,g6,c6,_,HLK6.out,(cO).trans kE.1⟩
         obtain⟨wq,rfl⟩:∃x,x=wc:=⟨wc,rfl⟩;obtain⟨rfl,g6,c6,mc6,hlk6,b0'⟩:=hcut;have HLKQ:=Hd hlk6;have hwq:w.heap.size<=wq.heap.size:=hlk6.bel.size;have hbq:=lt_of_cell b0';dsimp only at hbq;have HLIN:Hid (link most s.nodes ts=(link most (s.nodes++(more++[⟨xn,⟨va,vb,vc⟩,xctx,[]⟩])) (ts.drop (i+1))).map (fun y=>(y.1,(es++[⟨xn,L⟩])++y.2))):=Hd (by
          rw[HLI.out,List.drop_eq_getElem_cons (gS HX.out).1,(gS HX.out).2,Dk HPQ.out (by rw[<-HLL.out];exact HLM.out),Option.map_map,<-HLL.out,List.append_assoc];congr 1;funext y;simp)
         have HMO2:Hid ((s.nodes++(more++[(⟨xn,⟨va,vb,vc⟩,xctx,[]⟩:Nd)])).length<=most):=Hd (by
          have h1:=HLL.out;have h2:=HLM.out;rw[<-List.append_assoc,lA,List.length_singleton];omega)
         have HCL3:Hid (∀y∈s.nodes++(more++[(⟨xn,⟨va,vb,vc⟩,xctx,[]⟩:Nd)]),y.ctx.length<=128):=Hd (fun y hy=>by
          rw[<-List.append_assoc]at hy;rcases List.mem_append.1 hy with hy | hy
          ·exact HCL2.out y hy
          ·simp only[mI]at hy;subst hy;exact hxl)
         clear hlk6 hlm;obtain⟨wg,hwg⟩:=ex (wq.alloc (.cells #[.string (bs xn),.int .i64 (L:Int)] 111));have hbg:Below wq.heap.size wq wg:=by rw[hwg];exact(bR _ wq).alloc nL _
         have HLKG:=Hd (HLKQ.out.grow hbg);have HNBG:Hid (wg.heap[wq.heap.size]? =some (.cells #[.string (bs xn),.int .i64 (L:Int)] 111 (0,0))):=Hd (by rw[hwg];exact heap_alloc_new wq _);have HSG:Hid (wg.heap.size=wq.heap.size+1):=Hd (by rw[hwg];exact sA _ _);have hrg:=HLKG.out.eg;rw[<-HIE.out]at hrg;have HRG:=Hd hrg;have HWG:=Hd hwg;have hwzg:w.heap.size<=wq.heap.size:=by omega
         clear hwg hbg hrg;go_wp2_with (at_builtin;rw[<-HWG.out];refine wpList_append_lies wg rfl _ _ 55 rfl w.heap.size 111 ie (.agg #[.string ByteArray.empty,.int .i64 0]) 2 24 Tryz.underlying55 hie he0 he1 he2 rfl (by decide) (.slice ea i ec) i _ (by rfl) HRG.out ⟨wq.heap.size,0,none⟩ 1 1 [.string (bs xn),.int .i64 (L:Int)] (by rfl) (by rfl) (World.news_of_block (cs:=#[.string (bs xn),.int .i64 (L:Int)]) (t:=111) (fr:=(0,0)) HNBG.out) (by simp[Value.oneCell']) (by omega) (by unfold maxLen;omega) (by omega) (by have:=HSG.out;omega) (wq.heap.size+1) HSG.out ?_;intro g5 c5 w5 hown5 hgrow5 hat5 hlt5);have HLK5:=Hd (HLKG.out.edge (e:=⟨xn,L⟩) (ve':=.slice (some ⟨g5,0,none⟩) (i+1) c5) hgrow5 (by rw[<-HIE.out];exact hown5));clear hown5 hgrow5 hat5 hlt5;go_wp2;go_roundw;case rel=>exact⟨i+1,some ⟨g5,0,none⟩,c5,es++[⟨xn,L⟩],more++[⟨xn,⟨va,vb,vc⟩,xctx,[]⟩],mc6,.slice (some ⟨g6,0,none⟩) (L+1) c6,by go_num,rfl,by omega,by rw[lA,<-HIE.out];rfl,HMO2.out,HCL3.out,HLIN.out,HLK5.out⟩
         case measure=>simp[intOf];omega
      ·have hiz2:¬(i:Int)<(j:Int):=by omega
       have hfin:link most s.nodes ts=some (s.nodes++more,es):=by
        rw[hli,List.drop_eq_nil_iff.2 (by rw[<-HJT.out];omega)];simp[link]
       have HRO:Hid (R=.ok (s.nodes++more) es):=Hd (by rw[HRL.out,hfin]);have hrows:=hlk.rows HHD.out;have hedr:=hlk.edgeRow HHD.out;have hnk:(s.nodes++more)[K]? =some nd:=by rw[gL (by rw[<-HNN.out];exact hKN),HK.out];exact HN.out
       obtain⟨gq,cq,cvq,evq,e1,hgq1,hgq2,_,_,_,_,_,_,_,q5⟩:=hrows.node hnk;have e1':na=some ⟨gq,0,none⟩:=by injection e1
       subst e1';have hbk:s.bound.length=K:=by rw[HI.out.bd,HK.out]
       obtain⟨ce',hr1⟩:=hrows.edges hbk hnk hedr;have hgqsb:gq≠sb:=fun e=>by
        have:=bQ hlk.nd hlk.k (by decide);rw[<-e]at this;exact this rfl
       have hst:=hlk.nd;rw[<-hL]at hst;have fq:=hst.frozenAt (K*6+5);obtain⟨w7,hw7⟩:=ex (wp.setCell ⟨gq,K*6+5,none⟩ (.slice ea i ec));rw[<-hw7]at hr1;have hk7:pM w7 sb (.pointer (some ⟨f.s,0,none⟩)) f.v1 f.v2 f.v3 f.v4 f.dev f.vp (.slice sa SN sc) (.slice (some ⟨gq,0,none⟩) L nc2) (.slice aa K ac) vw (.int .i64 F):=hlk.k.grow (by rw[hw7];exact Below.heap_setCell _ _ _ _ hgqsb.symm);have hb7:Below base w w7:=by rw[hw7];exact hlk.bel.setCell (p:=⟨gq,K*6+5,none⟩) hgq1 _
       obtain⟨w8,hw8⟩:=ex (w7.alloc (.cells #[.int .i64 NN] 3));have hb78:Below w7.heap.size w7 w8:=by rw[hw8];exact(bR _ w7).alloc nL _
       have hr8:=hr1.grow hb78;have hk8:=hk7.grow (hb78.block sb hk7.lt);have hrA:=hr8.ah;have hAl:s.ahead.length=K:=by rw[HK.out];rfl
       dsimp only at hrA;rw[hAl]at hrA;have HRA:=Hd hrA;have HNB8:Hid (w8.heap[w7.heap.size]? =some (.cells #[.int .i64 NN] 3 (0,0))):=Hd (by rw[hw8];exact heap_alloc_new w7 _);have HS8:Hid (w8.heap.size=w7.heap.size+1):=Hd (by rw[hw8];exact sA _ _);have e89:w8.cell? ⟨sb,9,none⟩=some (.slice aa K ac):=hk8.cell 9;have f89:=hk8.soft 9;have hns:some sb≠(Value.slice aa K ac).ownBlock:=fun e=>bQ hrA hk8 (by decide) e.symm;have hs8:sb<w8.heap.size:=hk8.lt;have d79:w7.cell? ⟨sb,9,none⟩=some (.slice aa K ac):=hk7.cell 9;have d8:wp.cell? ⟨sb,8,none⟩=some (.slice (some ⟨gq,0,none⟩) L nc2):=hlk.k.cell 8;have hb8s:base<w8.heap.size:=Nat.lt_of_le_of_lt HHD.out.sb hk8.lt;have HR8:=Hd hr8;have HK8:=Hd hk8;have HB8:Hid (Below base w w8):=Hd (hb7.trans (hb78.mono (Nat.le_trans HHD.out.sb (Nat.le_of_lt hk7.lt))));have HW7:=Hd hw7
       have HW8:=Hd hw8;have HAL:=Hd hAl;have hKL:(K:Int)<(L:Int):=by
        have h1:=(gS hnk).1;omega
       have hK128:K<=128:=by omega
       clear hfin hrows hedr hnk e1 hbk hr1 hst hw7 hk7 hb7 hw8 hb78 hr8 hk8 hrA hAl hlk hcl hli hL hie2;go_upto_region 34 with fail;rw[<-HW7.out];go_upto_region 35 with(at_builtin;rw[<-HW8.out];refine wpList_append_lies w8 rfl _ _ 59 rfl base 3 ii (.int .i64 0) 1 8 Tryz.underlying59 hii hii0 hii1 hii2 rfl (by decide) (.slice aa K ac) K _ (by rfl) HRA.out ⟨w7.heap.size,0,none⟩ 1 1 [.int .i64 NN] (by rfl) (by rfl) (World.news_of_block (cs:=#[.int .i64 NN]) (t:=3) (fr:=(0,0)) HNB8.out) (by simp[Value.oneCell']) (by omega) (by unfold maxLen;omega) (by omega) (by omega) (w7.heap.size+1) HS8.out ?_;intro g9 c9' w9 hown9 hgrow9 hat9 hlt9;have e99:=(hgrow9.cell_far ⟨sb,9,none⟩ (by show sb<_;omega) hns).trans e89;have f99:w9.frozen? ⟨sb,9,none⟩=false:=(World.frozen?_of_block (a:=⟨sb,9,none⟩) (hgrow9.block sb (by omega) hns)).trans f89);have hk9:=HK8.out.grow (hgrow9.block sb (by omega) hns)
       have hr9:=HR8.out.ahead (n:=NN) (va':=.slice (some ⟨g9,0,none⟩) (K+1) c9') hgrow9 (by dsimp only;rw[HAL.out];exact hown9) (fun k hk=>by
        have hk':g9=k:=Option.some.inj hk;rcases hat9 with h1 | h1
        ·exact .inl (by rw[<-hk'];exact h1)
        ·exact .inr (by rw[<-hk',h1,HS8.out];exact nL))
       have hb9:Below base w w9:=HB8.out.grown hgrow9 (by omega) (fun g hg=>(HRA.out.lt g hg).1);have HEND:Hid (Held (w9.setCell ⟨sb,9,none⟩ (.slice (some ⟨g9,0,none⟩) (K+1) c9')) base sb f (s.bind (s.nodes++more) es) (.slice sa SN sc) (.slice (some ⟨gq,0,none⟩) L nc2) (.slice (some ⟨g9,0,none⟩) (K+1) c9') vw (.int .i64 F) cs ce'):=Hd (by
        have hb10:=hb9.setCell (p:=⟨sb,9,none⟩) HHD.out.sb (.slice (some ⟨g9,0,none⟩) (K+1) c9');refine⟨hk9.set9 _,?_,HHD.out.ok.below hb10 nL,HHD.out.sb⟩;have:=hr9.set 9 (.slice (some ⟨g9,0,none⟩) (K+1) c9') hk9;unfold St.bind;rw[<-HNN.out];exact this)
       have HB10:Hid (Below base w (w9.setCell ⟨sb,9,none⟩ (.slice (some ⟨g9,0,none⟩) (K+1) c9'))):=Hd (hb9.setCell (p:=⟨sb,9,none⟩) HHD.out.sb _);clear hk9 hr9 hb9 hown9 hgrow9 hat9 hlt9;go_wp2;go_returns;rw[HRO.out];unfold wK;dsimp only;rw[<-HF.out];exact⟨rfl,HB10.out,_,_,_,HEND.out⟩
end
end Go.Proofs.YtcohlmdnahdnaaaGreatDoor
