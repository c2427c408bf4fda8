/- A list's lines, by the document: the walk. -/
import Derived.Test.YtcohlmdnahdnaaaGreatDoorZTopU
namespace Go.Proofs.YtcohlmdnahdnaaaGreatDoor
open Go.RowKit
set_option linter.unusedVariables false
set_option linter.unusedSimpArgs false
set_option maxHeartbeats 16000000
set_option maxRecDepth 100000
section
open Top
theorem oO(w:World)(v:Value)(l:List Dp)(wd:List UInt8)(hw:wd.length<=20)(h:DpsAt w w.heap.size v l)(hl:LsOk l):
 Calls Tryz.prog 114 #[.string (bs wd),v] w fun e w'=>e=.returned (.string (bs (aH wd l)))/\Below w.heap.size w w':=by
 obtain⟨a0,c0,hv⟩:=h.form;obtain⟨N,hN⟩:=ex (l.length);have hn:=hl.len;rw[<-hN]at hv hn;have HN:=Hd hN;have HR:=Hd h;have HL:=Hd hl;subst hv;clear h hN hl;have hE:Hid (Value.string ⟨#[]⟩=Value.string (bs (aH wd (l.take 0)))):=Hd rfl;go_enter Tryz.func114,Tryz.ntmps114;go_wp2;go_loopw [6,5] (fun p q wr=>∃(k:Nat),p=.int .i64 k/\k<=N/\q=.string (bs (aH wd (l.take k)))/\Below w.heap.size w wr) (fun p _ _=>N-(intOf p).toNat);case atStart=>exact⟨0,rfl,by omega,hE.out,bR _ _⟩
 case round=>
  obtain⟨wo,rfl⟩:∃x,x=wr:=⟨wr,rfl⟩;obtain⟨k,rfl,hk,rfl,hb⟩:=hrel;have HB:=Hd hb;by_cases hkN:k<N
  ·obtain⟨x,hx⟩:∃x,l[k]? =some x:=⟨_,gE (by have:=HN.out;omega)⟩;obtain⟨bk,o,cap,hve,hcap,hbk,hat⟩:=HR.out.at (by have:=HN.out;omega);rw[<-HN.out]at hve;cases hve;obtain⟨ra,rc,hrg,e0,e1⟩:=hat k x hx;have hol:=HL.out.lines hw k;obtain⟨O,hO⟩:=ex (aH wd (l.take k));have HNX:Hid (aH wd (l.take (k+1))=O++gK wd x):=Hd (by rw[hO];exact kT hx);rw[<-hO]at hol |-;have hxn:=HL.out.at_ x (mG hx);obtain⟨_,hnl,hsm,hrl⟩:=hxn;have hrg1:=nO hrl;obtain⟨tx,htx⟩:=ex (jF x.rg);rw[<-htx]at hrg1;obtain⟨nm,hnm⟩:=ex (x.name);rw[<-hnm]at hnl e0;unfold sv at e0;obtain⟨M,hM⟩:=ex (x.rg.length);rw[<-hM]at e1;have HCELL:Hid (∀W,Below w.heap.size w W->W.cell? ⟨bk,o+k*2,none⟩=some (.string (bs nm))/\W.cell? ⟨bk,o+k*2+1,none⟩=some (.slice ra M rc)):=Hd (fun W hW=>⟨(hW.cell (p:=⟨bk,o+k*2,none⟩) hbk).trans e0,(hW.cell (p:=⟨bk,o+k*2+1,none⟩) hbk).trans e1⟩)
   have HPR:Hid (∀W,Below w.heap.size w W->Calls Tryz.prog 153 #[.slice ra M rc] W fun e w'=>e=.returned (.string (bs tx))/\Below W.heap.size W w'):=Hd (fun W hW=>by
    rw[htx];exact zZ W _ x.rg (by rw[hM];exact(RowZ.below hrg hW nL).mono hW.size) hsm hrl)
   obtain⟨s1,hs1⟩:=ex (O++wd);have ls1:s1.length<=40000:=by rw[hs1,lA];(try simp only[lC,lN]);omega
   have es1:∀w,(Op.stringOp .add (bs O) (bs wd)).run Tryz.prog w=.ok (.string (bs s1)) w:=by rw[hs1];exact aT (A:=O) (B:=wd) (by(try simp only[lC,lN]);omega)
   obtain⟨s2,hs2⟩:=ex (s1++[32]);have ls2:s2.length<=40001:=by rw[hs2,lA];(try simp only[lC,lN]);omega
   have es2:∀w,(Op.stringOp .add (bs s1) ⟨#[32]⟩).run Tryz.prog w=.ok (.string (bs s2)) w:=by rw[hs2];exact aT (A:=s1) (B:=[32]) (by(try simp only[lC,lN]);omega)
   obtain⟨s3,hs3⟩:=ex (s2++nm);have ls3:s3.length<=40017:=by rw[hs3,lA];(try simp only[lC,lN]);omega
   have es3:∀w,(Op.stringOp .add (bs s2) (bs nm)).run Tryz.prog w=.ok (.string (bs s3)) w:=by rw[hs3];exact aT (A:=s2) (B:=nm) (by(try simp only[lC,lN]);omega)
   obtain⟨s4,hs4⟩:=ex (s3++[32]);have ls4:s4.length<=40018:=by rw[hs4,lA];(try simp only[lC,lN]);omega
   have es4:∀w,(Op.stringOp .add (bs s3) ⟨#[32]⟩).run Tryz.prog w=.ok (.string (bs s4)) w:=by rw[hs4];exact aT (A:=s3) (B:=[32]) (by(try simp only[lC,lN]);omega)
   obtain⟨s5,hs5⟩:=ex (s4++tx);have ls5:s5.length<=42008:=by rw[hs5,lA];(try simp only[lC,lN]);omega
   have es5:∀w,(Op.stringOp .add (bs s4) (bs tx)).run Tryz.prog w=.ok (.string (bs s5)) w:=by rw[hs5];exact aT (A:=s4) (B:=tx) (by(try simp only[lC,lN]);omega)
   obtain⟨s6,hs6⟩:=ex (s5++[10]);have ls6:s6.length<=42009:=by rw[hs6,lA];(try simp only[lC,lN]);omega
   have es6:∀w,(Op.stringOp .add (bs s5) ⟨#[10]⟩).run Tryz.prog w=.ok (.string (bs s6)) w:=by rw[hs6];exact aT (A:=s5) (B:=[10]) (by(try simp only[lC,lN]);omega)
   have HF:Hid (O++gK wd x=s6):=Hd (by unfold gK;rw[hs6,hs5,hs4,hs3,hs2,hs1,htx,hnm];simp);rw[HF.out]at HNX;obtain⟨e0,e1⟩:=HCELL.out wo hb;clear hat hx hcap hrg hsm hs1 hs2 hs3 hs4 hs5 hs6 htx hnm hO hM;go_upto_region 5 with fail;refine rG (fun w'=>w'.cell? ⟨bk,o+k*2,none⟩=some (.string (bs nm))/\w'.cell? ⟨bk,o+k*2+1,none⟩=some (.slice ra M rc)) ⟨e0,e1⟩ fun hU=>?_;refine aM [0,1,2,3,4,5,6,7,8,9,10,11,12,13,14,15] ?_;refine rd 16 fun K hK=>?_;go_simp;go_at_call 153;refine(HPR.out _ (HB.out.drew)).mono ?_;rintro e w5 ⟨rfl,hb5⟩;have HB5:Hid (Below w.heap.size w w5):=Hd (HB.out.drew.trans (hb5.mono HB.out.drew.size));have kA:w5.cell? ⟨bk,o+k*2,none⟩=some (.string (bs nm))/\w5.cell? ⟨bk,o+k*2+1,none⟩=some (.slice ra M rc):=HCELL.out w5 HB5.out;clear hb5;refine hK.out _ _ kA fun hU=>?_;clear hK K
   refine aM [17,18,19] ?_;refine dN ?_;clear kA hU e0 e1;go_wp2;go_roundw;case rel=>exact⟨k+1,by go_num,by omega,by rw[HNX.out],HB5.out⟩
   case measure=>simp[intOf];omega
  ·have HF:Hid (l.take k=l):=Hd (List.take_of_length_le (by have:=HN.out;omega));rw[HF.out];go_wp2;go_returns;exact⟨rfl,hb⟩
end
section
open Top
theorem rR(w:World)(B b:Nat)(T:List UInt8)(v:Value)(l:List Dp)(wd:List UInt8)(hw:wd.length<=20)(hpw:VL.bS w)(hpB:∀W,Below B w W->VL.bS W)(hbl:Build B b (Go.Lib.byteCells T) w)(hT:T.length<=1000000)(hB:B<=w.heap.size)(h:DpsAt w B v l)(hl:LsOk l):
 Calls Tryz.prog 108 #[.pointer (some ⟨b,0,none⟩),.string (bs wd),v] w fun e w'=>e=.returned (.tuple #[])/\Build B b (Go.Lib.byteCells (T++aH wd l)) w'/\Below B w w':=by
 obtain⟨a0,c0,hv⟩:=h.form;obtain⟨N,hN⟩:=ex (l.length);have hn:=hl.len;rw[<-hN]at hv hn;have HN:=Hd hN;have HR:=Hd h;have HL:=Hd hl;have HPB:=Hd hpB;subst hv;have hE:Hid (Build B b (Go.Lib.byteCells (T++aH wd (l.take 0))) w):=Hd (by
  have:aH wd (l.take 0)=[]:=rfl;rw[this,List.append_nil];exact hbl)
 clear h hN hl hpw hpB hbl;go_enter Tryz.func108,Tryz.ntmps108;go_wp2;go_loopw [10] (fun p wr=>∃(k:Nat),p=.int .i64 k/\k<=N/\Build B b (Go.Lib.byteCells (T++aH wd (l.take k))) wr/\Below B w wr) (fun p _=>N-(intOf p).toNat);case atStart=>exact⟨0,rfl,by omega,hE.out,bR _ _⟩
 case round=>
  obtain⟨wo,rfl⟩:∃x,x=wr:=⟨wr,rfl⟩;obtain⟨k,rfl,hk,hbld,hb⟩:=hrel;have HB:=Hd hb;have HBLD:=Hd hbld;have HBW:Hid (B<=wo.heap.size):=Hd (by have:=hb.size;omega);clear hbld;by_cases hkN:k<N
  ·obtain⟨x,hx⟩:∃x,l[k]? =some x:=⟨_,gE (by have:=HN.out;omega)⟩;obtain⟨bk,o,cap,hve,hcap,hbk,hat⟩:=HR.out.at (by have:=HN.out;omega);rw[<-HN.out]at hve;cases hve;obtain⟨ra,rc,hrg,e0,e1⟩:=hat k x hx;rw[<-hb.cell (p:=⟨bk,o+k*2,none⟩) hbk]at e0;rw[<-hb.cell (p:=⟨bk,o+k*2+1,none⟩) hbk]at e1;have hol:=HL.out.lines hw k;have HTL:Hid ((T++aH wd (l.take k)).length<=1033600):=Hd (by rw[lA];omega);have hnx:aH wd (l.take (k+1))=aH wd (l.take k)++gK wd x:=kT hx;clear hol;have hxn:=HL.out.at_ x (mG hx);obtain⟨_,hnl,hsm,hrl⟩:=hxn;have hrg1:=nO hrl;obtain⟨tx,htx⟩:=ex (jF x.rg);rw[<-htx]at hrg1;obtain⟨nm,hnm⟩:=ex (x.name);rw[<-hnm]at hnl e0;unfold sv at e0;obtain⟨M,hM⟩:=ex (x.rg.length);rw[<-hM]at e1;obtain⟨wa,hwa⟩:=ex (wo.alloc (.cells #[.string (bs nm),.slice ra M rc] 75))
   have hba:Below wo.heap.size wo wa:=by rw[hwa];exact(bR _ _).alloc nL _
   have hza:wa.heap.size=wo.heap.size+1:=by rw[hwa];exact Array.size_push ..
   have hblk:wa.heap[wo.heap.size]? =some (.cells #[.string (bs nm),.slice ra M rc] 75 (0,0)):=by rw[hwa];exact heap_alloc_new wo _
   have HCA:Hid (∀W,Below wa.heap.size wa W->W.heap[wo.heap.size]? =some (.cells #[.string (bs nm),.slice ra M rc] 75 (0,0))/\W.cell? ⟨wo.heap.size,0,none⟩=some (.string (bs nm))/\W.cell? ⟨wo.heap.size,1,none⟩=some (.slice ra M rc)):=Hd (fun W hW=>by
    have h1:W.heap[wo.heap.size]? =some (.cells #[.string (bs nm),.slice ra M rc] 75 (0,0)):=by rw[hW.block _ (by omega)];exact hblk
    exact⟨h1,by unfold World.cell?;rw[h1];rfl,by unfold World.cell?;rw[h1];rfl⟩)
   have HPR:Hid (∀W,Below wo.heap.size wo W->Calls Tryz.prog 74 #[.slice ra M rc] W fun e w'=>e=.returned (.string (bs tx))/\Below W.heap.size W w'):=Hd (fun W hW=>by
    have hW2:Below B w W:=HB.out.trans (hW.mono HBW.out);rw[htx];exact Ad W _ x.rg (HPB.out W hW2) (by rw[hM];exact(RowZ.below hrg hW2 nL).mono (by have:=hW2.size;omega)) hsm hrl)
   obtain⟨s2,hs2⟩:=ex (wd++[32]);have ls2:s2.length<=21:=by rw[hs2,lA];(try simp only[lC,lN]);omega
   have es2:∀w,(Op.stringOp .add (bs wd) ⟨#[32]⟩).run Tryz.prog w=.ok (.string (bs s2)) w:=by rw[hs2];exact aT (A:=wd) (B:=[32]) (by(try simp only[lC,lN]);omega)
   obtain⟨s3,hs3⟩:=ex (s2++nm);have ls3:s3.length<=37:=by rw[hs3,lA];(try simp only[lC,lN]);omega
   have es3:∀w,(Op.stringOp .add (bs s2) (bs nm)).run Tryz.prog w=.ok (.string (bs s3)) w:=by rw[hs3];exact aT (A:=s2) (B:=nm) (by(try simp only[lC,lN]);omega)
   obtain⟨s4,hs4⟩:=ex (s3++[32]);have ls4:s4.length<=38:=by rw[hs4,lA];(try simp only[lC,lN]);omega
   have es4:∀w,(Op.stringOp .add (bs s3) ⟨#[32]⟩).run Tryz.prog w=.ok (.string (bs s4)) w:=by rw[hs4];exact aT (A:=s3) (B:=[32]) (by(try simp only[lC,lN]);omega)
   obtain⟨s5,hs5⟩:=ex (s4++tx);have ls5:s5.length<=2028:=by rw[hs5,lA];(try simp only[lC,lN]);omega
   have es5:∀w,(Op.stringOp .add (bs s4) (bs tx)).run Tryz.prog w=.ok (.string (bs s5)) w:=by rw[hs5];exact aT (A:=s4) (B:=tx) (by(try simp only[lC,lN]);omega)
   obtain⟨s6,hs6⟩:=ex (s5++[10]);have ls6:s6.length<=2029:=by rw[hs6,lA];(try simp only[lC,lN]);omega
   have es6:∀w,(Op.stringOp .add (bs s5) ⟨#[10]⟩).run Tryz.prog w=.ok (.string (bs s6)) w:=by rw[hs6];exact aT (A:=s5) (B:=[10]) (by(try simp only[lC,lN]);omega)
   have HF:Hid (gK wd x=s6):=Hd (by unfold gK;rw[hs6,hs5,hs4,hs3,hs2,htx,hnm]);have HNX:Hid (aH wd (l.take (k+1))=aH wd (l.take k)++s6):=Hd (by rw[hnx,HF.out]);have HBO:=Hd hba;have HBA:=Hd hba;have KA:=Hd (HCA.out wa (bR _ _));have HNEB:Hid (wo.heap.size≠b):=Hd (by
    rcases HBLD.out with h | h
    ·have:=h.lt;omega
    ·have:=h.lt;omega)
   have HWA:=Hd hwa;clear hat hx hcap hrg hsm hs2 hs3 hs4 hs5 hs6 htx hnm hM hwa hba hza hblk hnx;go_upto_region 3 with fail;rw[<-HWA.out];clear e0 e1;refine rG (fun w'=>w'.heap[wo.heap.size]? =some (.cells #[.string (bs nm),.slice ra M rc] 75 (0,0))/\w'.cell? ⟨wo.heap.size,0,none⟩=some (.string (bs nm))/\w'.cell? ⟨wo.heap.size,1,none⟩=some (.slice ra M rc)) KA.out fun hU=>?_;refine aM [0,1,2,3,4,5,6,7,8] ?_;refine rd 9 fun K hK=>?_;go_simp;go_at_call 74;refine(HPR.out _ HBA.out.drew).mono ?_;rintro e w5 ⟨rfl,hb5⟩;have HB5:Hid (Below wa.heap.size wa w5):=Hd ((bR _ wa).drew.trans hb5);have kA:w5.heap[wo.heap.size]? =some (.cells #[.string (bs nm),.slice ra M rc] 75 (0,0))/\w5.cell? ⟨wo.heap.size,0,none⟩=some (.string (bs nm))/\w5.cell? ⟨wo.heap.size,1,none⟩=some (.slice ra M rc):=HCA.out w5 HB5.out;clear hb5;refine hK.out _ _ kA fun hU=>?_
   clear hK K;refine aM [10,11] ?_;refine rd 12 fun K hK=>?_;have HBW5:Hid (Below wo.heap.size wo w5):=Hd (HBO.out.trans (HB5.out.mono HBO.out.size));have HBU5:=Hd (iC HBLD.out HBW5.out);have HZ5:=Hd HBW5.out.size;go_simp;go_at_call 72;refine(kJ B b _ (bs s6) w5 HBU5.out (by rw[Go.Lib.byteCells_length,eT];have:=HTL.out;omega) (by have:=HZ5.out;have:=HBW.out;omega)).mono ?_;rintro e w6 ⟨rfl,⟨hbu6,hb6⟩,hot6⟩;have kB:w6.heap[wo.heap.size]? =some (.cells #[.string (bs nm),.slice ra M rc] 75 (0,0))/\w6.cell? ⟨wo.heap.size,0,none⟩=some (.string (bs nm))/\w6.cell? ⟨wo.heap.size,1,none⟩=some (.slice ra M rc):=by
    have hblk:w6.heap[wo.heap.size]? =some (.cells #[.string (bs nm),.slice ra M rc] 75 (0,0)):=by
     rw[hot6 _ _ _ _ HNEB.out kA.1 (by decide)];exact kA.1
    exact⟨hblk,by unfold World.cell?;rw[hblk];rfl,by unfold World.cell?;rw[hblk];rfl⟩
   have HBU6:Hid (Build B b (Go.Lib.byteCells (T++aH wd (l.take (k+1)))) w6):=Hd (by
    have e:Go.Lib.byteCells (T++aH wd (l.take (k+1)))=Go.Lib.byteCells (T++aH wd (l.take k))++Go.Lib.strCells (bs s6):=by
     rw[HNX.out];simp[Go.Lib.byteCells,Go.Lib.strCells,bs]
    rw[e];exact hbu6)
   have HB6:Hid (Below B w w6):=Hd ((HB.out.trans (HBW5.out.mono (by have:=HBW.out;omega))).trans hb6);clear hbu6 hb6 hot6;refine hK.out _ _ kB fun hU=>?_;clear hK K;(try simp only[lay]);refine dN ?_;clear kA kB hU;go_wp2;go_roundw;case rel=>exact⟨k+1,by go_num,by omega,HBU6.out,HB6.out⟩
   case measure=>simp[intOf];omega
  ·have HF:Hid (l.take k=l):=Hd (List.take_of_length_le (by have:=HN.out;omega));go_wp2;go_returns;exact⟨rfl,by have h:=HBLD.out;rw[HF.out]at h;exact h,hb⟩
end
section
open Top
namespace Top
structure PkLs(p:Pk):Prop where
 deps:LsOk p.deps
 peers:LsOk p.peers
 opts:LsOk p.opts
end Top
theorem nS{wd:List UInt8}(hw:wd.length<=20){l:List Dp}(h:LsOk l):(aH wd l).length<=33600:=by
 have:=h.lines hw l.length;rwa[List.take_length]at this
theorem Gy(w:World)(p:Pk)(d1 d2 d3:Value)(h:PkAt w w.heap.size p d1 d2 d3)(hname:p.name.length<=16)(hl:PkLs p):
 Calls Tryz.prog 65 #[iU p d1 d2 d3] w fun e w'=>e=.returned (.string (bs (sM p)))/\Below w.heap.size w w':=by
 obtain⟨a1,c1,e1⟩:=h.deps.form;obtain⟨a2,c2,e2⟩:=h.peers.form;obtain⟨a3,c3,e3⟩:=h.opts.form;obtain⟨n1,hn1⟩:=ex (p.deps.length);obtain⟨n2,hn2⟩:=ex (p.peers.length);obtain⟨n3,hn3⟩:=ex (p.opts.length);rw[<-hn1]at e1;rw[<-hn2]at e2;rw[<-hn3]at e3;subst e1 e2 e3;have hvl:=iK p.v;obtain⟨nm,hnm⟩:=ex (p.name);obtain⟨va,hva⟩:=ex (p.v.a);obtain⟨vb,hvb⟩:=ex (p.v.b);obtain⟨vc,hvc⟩:=ex (p.v.c);obtain⟨vt,hvt⟩:=ex (p.v.txt);rw[<-hnm]at hname;rw[<-hvt]at hvl;have hwp:sD.length=8:=rfl;obtain⟨L1,hL1⟩:=ex (aH fO p.deps);obtain⟨L2,hL2⟩:=ex (aH jM p.peers);obtain⟨L3,hL3⟩:=ex (aH jV p.opts);have hl1:L1.length<=33600:=by rw[hL1];exact nS (by decide) hl.deps
 have hl2:L2.length<=33600:=by rw[hL2];exact nS (by decide) hl.peers
 have hl3:L3.length<=33600:=by rw[hL3];exact nS (by decide) hl.opts
 have HL1:Hid (∀W,Below w.heap.size w W->Calls Tryz.prog 114 #[.string ⟨#[110,101,101,100,115]⟩,.slice a1 n1 c1] W fun e w'=>e=.returned (.string (bs L1))/\Below W.heap.size W w'):=Hd (fun W hW=>by
  rw[hL1];exact oO W _ p.deps fO (by decide) ((h.deps.below hW nL).mono hW.size) hl.deps)
 have HL2:Hid (∀W,Below w.heap.size w W->Calls Tryz.prog 114 #[.string ⟨#[98,101,115,105,100,101]⟩,.slice a2 n2 c2] W fun e w'=>e=.returned (.string (bs L2))/\Below W.heap.size W w'):=Hd (fun W hW=>by
  rw[hL2];exact oO W _ p.peers jM (by decide) ((h.peers.below hW nL).mono hW.size) hl.peers)
 have HL3:Hid (∀W,Below w.heap.size w W->Calls Tryz.prog 114 #[.string ⟨#[108,105,107,101,115]⟩,.slice a3 n3 c3] W fun e w'=>e=.returned (.string (bs L3))/\Below W.heap.size W w'):=Hd (fun W hW=>by
  rw[hL3];exact oO W _ p.opts jV (by decide) ((h.opts.below hW nL).mono hW.size) hl.opts)
 have HP:Hid (∀W,Below w.heap.size w W->Calls Tryz.prog 113 #[.agg #[.int .i64 va,.int .i64 vb,.int .i64 vc]] W fun e w'=>e=.returned (.string (bs vt))/\Below W.heap.size W w'):=Hd (fun W hW=>by rw[hvt,rX,hva,hvb,hvc];exact VL.oN _ _ _ W);obtain⟨s1,hs1⟩:=ex (sD++nm);have ls1:s1.length<=24:=by rw[hs1,lA];(try simp only[lC,lN]);omega
 have es1:∀w,(Op.stringOp .add ⟨#[112,97,99,107,97,103,101,32]⟩ (bs nm)).run Tryz.prog w=.ok (.string (bs s1)) w:=by rw[hs1];exact aT (A:=sD) (B:=nm) (by(try simp only[lC,lN]);omega)
 obtain⟨s2,hs2⟩:=ex (s1++[32]);have ls2:s2.length<=25:=by rw[hs2,lA];(try simp only[lC,lN]);omega
 have es2:∀w,(Op.stringOp .add (bs s1) ⟨#[32]⟩).run Tryz.prog w=.ok (.string (bs s2)) w:=by rw[hs2];exact aT (A:=s1) (B:=[32]) (by(try simp only[lC,lN]);omega)
 obtain⟨s3,hs3⟩:=ex (s2++vt);have ls3:s3.length<=36:=by rw[hs3,lA];(try simp only[lC,lN]);omega
 have es3:∀w,(Op.stringOp .add (bs s2) (bs vt)).run Tryz.prog w=.ok (.string (bs s3)) w:=by rw[hs3];exact aT (A:=s2) (B:=vt) (by(try simp only[lC,lN]);omega)
 obtain⟨s4,hs4⟩:=ex (s3++[10]);have ls4:s4.length<=37:=by rw[hs4,lA];(try simp only[lC,lN]);omega
 have es4:∀w,(Op.stringOp .add (bs s3) ⟨#[10]⟩).run Tryz.prog w=.ok (.string (bs s4)) w:=by rw[hs4];exact aT (A:=s3) (B:=[10]) (by(try simp only[lC,lN]);omega)
 obtain⟨s5,hs5⟩:=ex (s4++L1);have ls5:s5.length<=33700:=by rw[hs5,lA];(try simp only[lC,lN]);omega
 have es5:∀w,(Op.stringOp .add (bs s4) (bs L1)).run Tryz.prog w=.ok (.string (bs s5)) w:=by rw[hs5];exact aT (A:=s4) (B:=L1) (by(try simp only[lC,lN]);omega)
 obtain⟨s6,hs6⟩:=ex (s5++L2);have ls6:s6.length<=67300:=by rw[hs6,lA];(try simp only[lC,lN]);omega
 have es6:∀w,(Op.stringOp .add (bs s5) (bs L2)).run Tryz.prog w=.ok (.string (bs s6)) w:=by rw[hs6];exact aT (A:=s5) (B:=L2) (by(try simp only[lC,lN]);omega)
 obtain⟨s7,hs7⟩:=ex (s6++L3);have ls7:s7.length<=100900:=by rw[hs7,lA];(try simp only[lC,lN]);omega
 have es7:∀w,(Op.stringOp .add (bs s6) (bs L3)).run Tryz.prog w=.ok (.string (bs s7)) w:=by rw[hs7];exact aT (A:=s6) (B:=L3) (by(try simp only[lC,lN]);omega)
 have HF:Hid (sM p=s7):=Hd (by unfold sM fU;rw[hs7,hs6,hs5,hs4,hs3,hs2,hs1,hL1,hL2,hL3,hvt,hnm]);unfold iU sv;rw[<-hnm,<-hva,<-hvb,<-hvc];obtain⟨wb,hwb⟩:=ex (w.alloc (.cells #[.string (bs nm),.int .i64 va,.int .i64 vb,.int .i64 vc,.slice a1 n1 c1,.slice a2 n2 c2,.slice a3 n3 c3] 52));have hbb:Below w.heap.size w wb:=by rw[hwb];exact(bR _ _).alloc nL _
 have hzb:wb.heap.size=w.heap.size+1:=by rw[hwb];exact Array.size_push ..
 have HCELL:Hid (∀W,Below wb.heap.size wb W->W.cell? ⟨w.heap.size,0,none⟩=some (.string (bs nm))/\W.cell? ⟨w.heap.size,1,none⟩=some (.int .i64 va)/\W.cell? ⟨w.heap.size,2,none⟩=some (.int .i64 vb)/\W.cell? ⟨w.heap.size,3,none⟩=some (.int .i64 vc)/\W.cell? ⟨w.heap.size,4,none⟩=some (.slice a1 n1 c1)/\W.cell? ⟨w.heap.size,5,none⟩=some (.slice a2 n2 c2)/\W.cell? ⟨w.heap.size,6,none⟩=some (.slice a3 n3 c3)):=Hd (fun W hW=>by
  have h1:W.heap[w.heap.size]? =some (.cells #[.string (bs nm),.int .i64 va,.int .i64 vb,.int .i64 vc,.slice a1 n1 c1,.slice a2 n2 c2,.slice a3 n3 c3] 52 (0,0)):=by rw[hW.block _ (by omega),hwb];exact heap_alloc_new w _
  refine⟨?_,?_,?_,?_,?_,?_,?_⟩<;>(unfold World.cell?;rw[h1];rfl))
 have HWB:=Hd hwb;have HBB:=Hd hbb;have K0:=Hd (HCELL.out wb (bR _ _));clear hwb;clear h hn1 hn2 hn3 hnm hva hvb hvc hvt hs1 hs2 hs3 hs4 hs5 hs6 hs7 hL1 hL2 hL3 hl;go_enter Tryz.func65,Tryz.ntmps65;go_upto_region 1 with fail;rw[<-HWB.out];refine rG (fun w'=>w'.cell? ⟨w.heap.size,0,none⟩=some (.string (bs nm))/\w'.cell? ⟨w.heap.size,1,none⟩=some (.int .i64 va)/\w'.cell? ⟨w.heap.size,2,none⟩=some (.int .i64 vb)/\w'.cell? ⟨w.heap.size,3,none⟩=some (.int .i64 vc)/\w'.cell? ⟨w.heap.size,4,none⟩=some (.slice a1 n1 c1)/\w'.cell? ⟨w.heap.size,5,none⟩=some (.slice a2 n2 c2)/\w'.cell? ⟨w.heap.size,6,none⟩=some (.slice a3 n3 c3)) K0.out fun hU=>?_;refine aM [0,1,2,3,4,5,9,10,13,14,17,18] ?_;refine rd 6 fun K hK=>?_;go_simp;go_at_call 113;refine(HP.out _ (HBB.out.drew)).mono ?_;rintro e w5 ⟨rfl,hb9⟩;have HBw5:Hid (Below w.heap.size w w5):=Hd ((HBB.out.drew).trans (hb9.mono (HBB.out.drew).size))
 have HXw5:Hid (Below wb.heap.size wb w5):=Hd (((bR wb.heap.size wb).drew).trans (hb9.mono ((bR wb.heap.size wb).drew).size));have kw5:w5.cell? ⟨w.heap.size,0,none⟩=some (.string (bs nm))/\w5.cell? ⟨w.heap.size,1,none⟩=some (.int .i64 va)/\w5.cell? ⟨w.heap.size,2,none⟩=some (.int .i64 vb)/\w5.cell? ⟨w.heap.size,3,none⟩=some (.int .i64 vc)/\w5.cell? ⟨w.heap.size,4,none⟩=some (.slice a1 n1 c1)/\w5.cell? ⟨w.heap.size,5,none⟩=some (.slice a2 n2 c2)/\w5.cell? ⟨w.heap.size,6,none⟩=some (.slice a3 n3 c3):=HCELL.out w5 HXw5.out;clear hb9;refine hK.out _ _ kw5 fun hU=>?_;clear hK K;refine aM [7,8] ?_;refine rd 11 fun K hK=>?_;go_simp;go_at_call 114;refine(HL1.out _ (HBw5.out)).mono ?_;rintro e w6 ⟨rfl,hb9⟩;have HBw6:Hid (Below w.heap.size w w6):=Hd ((HBw5.out).trans (hb9.mono (HBw5.out).size));have HXw6:Hid (Below wb.heap.size wb w6):=Hd ((HXw5.out).trans (hb9.mono (HXw5.out).size))
 have kw6:w6.cell? ⟨w.heap.size,0,none⟩=some (.string (bs nm))/\w6.cell? ⟨w.heap.size,1,none⟩=some (.int .i64 va)/\w6.cell? ⟨w.heap.size,2,none⟩=some (.int .i64 vb)/\w6.cell? ⟨w.heap.size,3,none⟩=some (.int .i64 vc)/\w6.cell? ⟨w.heap.size,4,none⟩=some (.slice a1 n1 c1)/\w6.cell? ⟨w.heap.size,5,none⟩=some (.slice a2 n2 c2)/\w6.cell? ⟨w.heap.size,6,none⟩=some (.slice a3 n3 c3):=HCELL.out w6 HXw6.out;clear hb9;refine hK.out _ _ kw6 fun hU=>?_;clear hK K;refine aM [12] ?_;refine rd 15 fun K hK=>?_;go_simp;go_at_call 114;refine(HL2.out _ (HBw6.out)).mono ?_;rintro e w7 ⟨rfl,hb9⟩;have HBw7:Hid (Below w.heap.size w w7):=Hd ((HBw6.out).trans (hb9.mono (HBw6.out).size));have HXw7:Hid (Below wb.heap.size wb w7):=Hd ((HXw6.out).trans (hb9.mono (HXw6.out).size));have kw7:w7.cell? ⟨w.heap.size,0,none⟩=some (.string (bs nm))/\w7.cell? ⟨w.heap.size,1,none⟩=some (.int .i64 va)/\w7.cell? ⟨w.heap.size,2,none⟩=some (.int .i64 vb)/\w7.cell? ⟨w.heap.size,3,none⟩=some (.int .i64 vc)/\w7.cell? ⟨w.heap.size,4,none⟩=some (.slice a1 n1 c1)/\w7.cell? ⟨w.heap.size,5,none⟩=some (.slice a2 n2 c2)/\w7.cell? ⟨w.heap.size,6,none⟩=some (.slice a3 n3 c3):=HCELL.out w7 HXw7.out
 clear hb9;refine hK.out _ _ kw7 fun hU=>?_;clear hK K;refine aM [16] ?_;refine rd 19 fun K hK=>?_;go_simp;go_at_call 114;refine(HL3.out _ (HBw7.out)).mono ?_;rintro e w8 ⟨rfl,hb9⟩;have HBw8:Hid (Below w.heap.size w w8):=Hd ((HBw7.out).trans (hb9.mono (HBw7.out).size));have HXw8:Hid (Below wb.heap.size wb w8):=Hd ((HXw7.out).trans (hb9.mono (HXw7.out).size));have kw8:w8.cell? ⟨w.heap.size,0,none⟩=some (.string (bs nm))/\w8.cell? ⟨w.heap.size,1,none⟩=some (.int .i64 va)/\w8.cell? ⟨w.heap.size,2,none⟩=some (.int .i64 vb)/\w8.cell? ⟨w.heap.size,3,none⟩=some (.int .i64 vc)/\w8.cell? ⟨w.heap.size,4,none⟩=some (.slice a1 n1 c1)/\w8.cell? ⟨w.heap.size,5,none⟩=some (.slice a2 n2 c2)/\w8.cell? ⟨w.heap.size,6,none⟩=some (.slice a3 n3 c3):=HCELL.out w8 HXw8.out;clear hb9;refine hK.out _ _ kw8 fun hU=>?_;clear hK K;refine aM [20,21] ?_;refine dN ?_
 clear kw5 kw6 kw7 kw8 hU;go_wp2;go_returns;exact⟨by rw[HF.out];rfl,HBw8.out⟩
end
section
open Top
theorem Kv(w:World)(p:Pk)(d1 d2 d3:Value)(hpw:VL.bS w)(h:PkAt w w.heap.size p d1 d2 d3)(hname:p.name.length<=16)(hl:PkLs p):
 Calls Tryz.prog 59 #[iU p d1 d2 d3] w fun e w'=>e=.returned (.string (bs (sM p)))/\Below w.heap.size w w':=by
 have HNM:=Hd hname;obtain⟨a1,c1,e1⟩:=h.deps.form;obtain⟨a2,c2,e2⟩:=h.peers.form;obtain⟨a3,c3,e3⟩:=h.opts.form;obtain⟨n1,hn1⟩:=ex (p.deps.length);obtain⟨n2,hn2⟩:=ex (p.peers.length);obtain⟨n3,hn3⟩:=ex (p.opts.length);rw[<-hn1]at e1;rw[<-hn2]at e2;rw[<-hn3]at e3;subst e1 e2 e3;have hvl:=iK p.v;obtain⟨nm,hnm⟩:=ex (p.name);obtain⟨va,hva⟩:=ex (p.v.a);obtain⟨vb,hvb⟩:=ex (p.v.b);obtain⟨vc,hvc⟩:=ex (p.v.c);obtain⟨vt,hvt⟩:=ex (p.v.txt);rw[<-hnm]at hname;rw[<-hvt]at hvl;have hwp:sD.length=8:=rfl;have HPW:Hid (∀W,Below w.heap.size w W->VL.bS W):=Hd (fun W hW=>hpw.below hW nL);have HH:=Hd h;have HLS:=Hd hl;have HG1:Hid ((aH fO p.deps).length<=33600):=Hd (nS (by decide) hl.deps);have HG2:Hid ((aH jM p.peers).length<=33600):=Hd (nS (by decide) hl.peers);have HG3:Hid ((aH jV p.opts).length<=33600):=Hd (nS (by decide) hl.opts)
 have HP:Hid (∀W,Below w.heap.size w W->Calls Tryz.prog 107 #[.agg #[.int .i64 va,.int .i64 vb,.int .i64 vc]] W fun e w'=>e=.returned (.string (bs vt))/\Below W.heap.size W w'):=Hd (fun W hW=>by rw[hvt,rX,hva,hvb,hvc];exact VL.rH _ _ _ W (HPW.out W hW));obtain⟨s1,hs1⟩:=ex (sD++nm);have ls1:s1.length<=24:=by rw[hs1,lA];(try simp only[lC,lN]);omega
 have es1:∀w,(Op.stringOp .add ⟨#[112,97,99,107,97,103,101,32]⟩ (bs nm)).run Tryz.prog w=.ok (.string (bs s1)) w:=by rw[hs1];exact aT (A:=sD) (B:=nm) (by(try simp only[lC,lN]);omega)
 obtain⟨s2,hs2⟩:=ex (s1++[32]);have ls2:s2.length<=25:=by rw[hs2,lA];(try simp only[lC,lN]);omega
 have es2:∀w,(Op.stringOp .add (bs s1) ⟨#[32]⟩).run Tryz.prog w=.ok (.string (bs s2)) w:=by rw[hs2];exact aT (A:=s1) (B:=[32]) (by(try simp only[lC,lN]);omega)
 obtain⟨s3,hs3⟩:=ex (s2++vt);have ls3:s3.length<=36:=by rw[hs3,lA];(try simp only[lC,lN]);omega
 have es3:∀w,(Op.stringOp .add (bs s2) (bs vt)).run Tryz.prog w=.ok (.string (bs s3)) w:=by rw[hs3];exact aT (A:=s2) (B:=vt) (by(try simp only[lC,lN]);omega)
 obtain⟨s4,hs4⟩:=ex (s3++[10]);have ls4:s4.length<=37:=by rw[hs4,lA];(try simp only[lC,lN]);omega
 have es4:∀w,(Op.stringOp .add (bs s3) ⟨#[10]⟩).run Tryz.prog w=.ok (.string (bs s4)) w:=by rw[hs4];exact aT (A:=s3) (B:=[10]) (by(try simp only[lC,lN]);omega)
 have HHD:Hid (fU p=s4):=Hd (by unfold fU;rw[hs4,hs3,hs2,hs1,hvt,hnm]);unfold iU sv;rw[<-hnm,<-hva,<-hvb,<-hvc];obtain⟨wb,hwb⟩:=ex (w.alloc (.cells #[.string (bs nm),.int .i64 va,.int .i64 vb,.int .i64 vc,.slice a1 n1 c1,.slice a2 n2 c2,.slice a3 n3 c3] 52));have hbb:Below w.heap.size w wb:=by rw[hwb];exact(bR _ _).alloc nL _
 have hzb:wb.heap.size=w.heap.size+1:=by rw[hwb];exact Array.size_push ..
 have HCELL:Hid (∀W,Below wb.heap.size wb W->W.cell? ⟨w.heap.size,0,none⟩=some (.string (bs nm))/\W.cell? ⟨w.heap.size,1,none⟩=some (.int .i64 va)/\W.cell? ⟨w.heap.size,2,none⟩=some (.int .i64 vb)/\W.cell? ⟨w.heap.size,3,none⟩=some (.int .i64 vc)/\W.cell? ⟨w.heap.size,4,none⟩=some (.slice a1 n1 c1)/\W.cell? ⟨w.heap.size,5,none⟩=some (.slice a2 n2 c2)/\W.cell? ⟨w.heap.size,6,none⟩=some (.slice a3 n3 c3)):=Hd (fun W hW=>by
  have h1:W.heap[w.heap.size]? =some (.cells #[.string (bs nm),.int .i64 va,.int .i64 vb,.int .i64 vc,.slice a1 n1 c1,.slice a2 n2 c2,.slice a3 n3 c3] 52 (0,0)):=by rw[hW.block _ (by omega),hwb];exact heap_alloc_new w _
  refine⟨?_,?_,?_,?_,?_,?_,?_⟩<;>(unfold World.cell?;rw[h1];rfl))
 have HWB:=Hd hwb;have HBB:=Hd hbb;have K0:=Hd (HCELL.out wb (bR _ _));clear hwb;obtain⟨wc,hwc⟩:=ex (wb.alloc (.cells #[.pointer none,.slice none 0 0] 141));have HBU:Hid (Build wb.heap.size wb.heap.size [] wc):=Hd (by rw[hwc];exact Go.Lib.fresh_isBuilder 141 5 wb);have hbc2:Below wb.heap.size wb wc:=by rw[hwc];exact(bR _ _).alloc nL _
 have HBC2:=Hd hbc2;have HBC:Hid (Below w.heap.size w wc):=Hd (HBB.out.trans (hbc2.mono HBB.out.size));have HZC:=Hd hbc2.size;have K1:=Hd (HCELL.out wc hbc2);have HWC:=Hd hwc;have HZB2:Hid (w.heap.size+1=wb.heap.size):=Hd hzb.symm;clear h hn1 hn2 hn3 hnm hva hvb hvc hvt hs1 hs2 hs3 hs4 hl hwc hbc2 hpw K0 hzb hbb;go_enter Tryz.func59,Tryz.ntmps59;go_upto_region 2 with fail;rw[<-HWB.out];rw[<-HWC.out];rw[HZB2.out];refine rG (fun w'=>w'.cell? ⟨w.heap.size,0,none⟩=some (.string (bs nm))/\w'.cell? ⟨w.heap.size,1,none⟩=some (.int .i64 va)/\w'.cell? ⟨w.heap.size,2,none⟩=some (.int .i64 vb)/\w'.cell? ⟨w.heap.size,3,none⟩=some (.int .i64 vc)/\w'.cell? ⟨w.heap.size,4,none⟩=some (.slice a1 n1 c1)/\w'.cell? ⟨w.heap.size,5,none⟩=some (.slice a2 n2 c2)/\w'.cell? ⟨w.heap.size,6,none⟩=some (.slice a3 n3 c3)) K1.out fun hU=>?_;refine aM [0,1,2,3,4,5] ?_
 refine rd 6 fun K hK=>?_;go_simp;go_at_call 107;refine(HP.out _ (HBC.out.drew)).mono ?_;rintro e w5 ⟨rfl,hb9⟩;have HB5:Hid (Below wc.heap.size wc w5):=Hd ((bR _ wc).drew.trans hb9);have k5:w5.cell? ⟨w.heap.size,0,none⟩=some (.string (bs nm))/\w5.cell? ⟨w.heap.size,1,none⟩=some (.int .i64 va)/\w5.cell? ⟨w.heap.size,2,none⟩=some (.int .i64 vb)/\w5.cell? ⟨w.heap.size,3,none⟩=some (.int .i64 vc)/\w5.cell? ⟨w.heap.size,4,none⟩=some (.slice a1 n1 c1)/\w5.cell? ⟨w.heap.size,5,none⟩=some (.slice a2 n2 c2)/\w5.cell? ⟨w.heap.size,6,none⟩=some (.slice a3 n3 c3):=HCELL.out w5 (HBC2.out.trans (HB5.out.mono HBC2.out.size));clear hb9;refine hK.out _ _ k5 fun hU=>?_;clear hK K;refine aM [7,8] ?_;refine rd 9 fun K hK=>?_;have HBU5:=Hd (iC HBU.out HB5.out);have HZ5:=Hd HB5.out.size;go_simp;go_at_call 72;refine(lJ wb.heap.size wb.heap.size [] (bs s4) w5 HBU5.out (by rw[eT];simp only[lN];omega) (by have:=HZ5.out;have:=HZC.out;omega)).mono ?_
 rintro e w6 ⟨rfl,hbu6,hb6⟩;have HB6:Hid (Below wb.heap.size wb w6):=Hd ((HBC2.out.trans (HB5.out.mono HBC2.out.size)).trans hb6);have k6:w6.cell? ⟨w.heap.size,0,none⟩=some (.string (bs nm))/\w6.cell? ⟨w.heap.size,1,none⟩=some (.int .i64 va)/\w6.cell? ⟨w.heap.size,2,none⟩=some (.int .i64 vb)/\w6.cell? ⟨w.heap.size,3,none⟩=some (.int .i64 vc)/\w6.cell? ⟨w.heap.size,4,none⟩=some (.slice a1 n1 c1)/\w6.cell? ⟨w.heap.size,5,none⟩=some (.slice a2 n2 c2)/\w6.cell? ⟨w.heap.size,6,none⟩=some (.slice a3 n3 c3):=HCELL.out w6 HB6.out;have HBU6:Hid (Build wb.heap.size wb.heap.size (Go.Lib.byteCells (fU p)) w6):=Hd (by
  have e:Go.Lib.byteCells (fU p)=[]++Go.Lib.strCells (bs s4):=by
   rw[HHD.out];simp[Go.Lib.byteCells,Go.Lib.strCells,bs]
  rw[e];exact hbu6)
 clear hbu6 hb6;refine hK.out _ _ k6 fun hU=>?_;clear hK K;try simp only[lay]
 refine dN ?_;clear k5 k6 hU;obtain⟨q0,q1,q2,q3,q4,q5,q6⟩:=HCELL.out w6 HB6.out;have HLC:Hid (Calls Tryz.prog 108 #[.pointer (some ⟨wb.heap.size,0,none⟩),.string ⟨#[110,101,101,100,115]⟩,.slice a1 n1 c1] w6 fun e w'=>e=.returned (.tuple #[])/\Build wb.heap.size wb.heap.size (Go.Lib.byteCells (fU p++aH fO p.deps)) w'/\Below wb.heap.size w6 w'):=Hd (by
  have hW:=HBB.out.trans ((HB6.out).mono HBB.out.size);refine rR w6 wb.heap.size wb.heap.size (fU p) _ p.deps fO (by decide) (HPW.out w6 hW) (fun W' hW'=>HPW.out W' (hW.trans (hW'.mono HBB.out.size))) HBU6.out ?_ (HB6.out).size ((HH.out.deps.below hW nL).mono HBB.out.size) HLS.out.deps;have h0:=oU HNM.out;have g1:=HG1.out;have g2:=HG2.out;have g3:=HG3.out;try simp only[lA]
  omega)
 go_wp2_with fail;refine HLC.out.mono ?_;rintro e w7 ⟨rfl,hbu,hb9⟩;have HB7:Hid (Below wb.heap.size wb w7):=Hd ((HB6.out).trans hb9);have HBU7:=Hd hbu;clear q0 q1 q2 q3 q4 q5 q6 HLC hbu hb9;obtain⟨q0,q1,q2,q3,q4,q5,q6⟩:=HCELL.out w7 HB7.out;have HLC:Hid (Calls Tryz.prog 108 #[.pointer (some ⟨wb.heap.size,0,none⟩),.string ⟨#[98,101,115,105,100,101]⟩,.slice a2 n2 c2] w7 fun e w'=>e=.returned (.tuple #[])/\Build wb.heap.size wb.heap.size (Go.Lib.byteCells (fU p++aH fO p.deps++aH jM p.peers)) w'/\Below wb.heap.size w7 w'):=Hd (by
  have hW:=HBB.out.trans ((HB7.out).mono HBB.out.size);refine rR w7 wb.heap.size wb.heap.size (fU p++aH fO p.deps) _ p.peers jM (by decide) (HPW.out w7 hW) (fun W' hW'=>HPW.out W' (hW.trans (hW'.mono HBB.out.size))) HBU7.out ?_ (HB7.out).size ((HH.out.peers.below hW nL).mono HBB.out.size) HLS.out.peers;have h0:=oU HNM.out;have g1:=HG1.out;have g2:=HG2.out;have g3:=HG3.out;try simp only[lA]
  omega)
 go_wp2_with fail;refine HLC.out.mono ?_;rintro e w8 ⟨rfl,hbu,hb9⟩;have HB8:Hid (Below wb.heap.size wb w8):=Hd ((HB7.out).trans hb9);have HBU8:=Hd hbu;clear q0 q1 q2 q3 q4 q5 q6 HLC hbu hb9;obtain⟨q0,q1,q2,q3,q4,q5,q6⟩:=HCELL.out w8 HB8.out;have HLC:Hid (Calls Tryz.prog 108 #[.pointer (some ⟨wb.heap.size,0,none⟩),.string ⟨#[108,105,107,101,115]⟩,.slice a3 n3 c3] w8 fun e w'=>e=.returned (.tuple #[])/\Build wb.heap.size wb.heap.size (Go.Lib.byteCells (fU p++aH fO p.deps++aH jM p.peers++aH jV p.opts)) w'/\Below wb.heap.size w8 w'):=Hd (by
  have hW:=HBB.out.trans ((HB8.out).mono HBB.out.size);refine rR w8 wb.heap.size wb.heap.size (fU p++aH fO p.deps++aH jM p.peers) _ p.opts jV (by decide) (HPW.out w8 hW) (fun W' hW'=>HPW.out W' (hW.trans (hW'.mono HBB.out.size))) HBU8.out ?_ (HB8.out).size ((HH.out.opts.below hW nL).mono HBB.out.size) HLS.out.opts;have h0:=oU HNM.out;have g1:=HG1.out;have g2:=HG2.out;have g3:=HG3.out;try simp only[lA]
  omega)
 go_wp2_with fail;refine HLC.out.mono ?_;rintro e w9 ⟨rfl,hbu,hb9⟩;have HB9:Hid (Below wb.heap.size wb w9):=Hd ((HB8.out).trans hb9);have HBU9:=Hd hbu;clear q0 q1 q2 q3 q4 q5 q6 HLC hbu hb9;go_wp2_with fail;refine(Tryz.Builder_String_any wb.heap.size wb.heap.size (sM p) _ HBU9.out HB9.out.size).mono ?_;rintro e w10 ⟨rfl,hb10⟩;go_wp2;go_returns;exact⟨rfl,HBB.out.trans ((HB9.out.trans hb10).mono HBB.out.size)⟩
end
end Go.Proofs.YtcohlmdnahdnaaaGreatDoor
