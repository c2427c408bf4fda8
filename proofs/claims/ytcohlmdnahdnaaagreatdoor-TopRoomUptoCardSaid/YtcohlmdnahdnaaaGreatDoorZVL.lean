/- What versions answer. -/
import Derived.Test.YtcohlmdnahdnaaaGreatDoorZStab
import Derived.Test.YtcohlmdnahdnaaaGreatDoorZVL1
namespace Go.Proofs.YtcohlmdnahdnaaaGreatDoor
open Go.RowKit
set_option linter.unusedVariables false
set_option linter.unusedSimpArgs false
set_option maxHeartbeats 16000000
set_option maxRecDepth 100000

section
open VL
namespace Top
def Ve.may(v:Ve):Bool:=V.may v.a v.b v.c
def Ve.rank(v:Ve):Int:=V.rank v.a v.b v.c
def Ve.text(v:Ve):List UInt8:=V.text v.a v.b v.c
def fP:Int->List Sp->Bool
 | _,[]=>true
 | least,x::r=>x.lo.may&&(x.hi.may&&(decide (least<=x.lo.rank)&&(decide (x.lo.rank<=x.hi.rank)&&fP (x.hi.rank+2) r)))
def dE(l:List Sp):Bool:=decide (l.length<=64)&&fP 0 l
def Ve.cmp(a b:Ve):Int:=VL.V.cmp a.a a.b a.c b.a b.b b.c
def uP(x:Sp)(v:Ve):Bool:=decide (x.lo.cmp v<=0)&&decide (v.cmp x.hi<=0)
def gI(l:List Sp)(v:Ve):Bool:=dE l&&(v.may&&l.any fun x=>uP x v)
theorem oL{l:List Sp}(h:64<l.length):dE l=false:=by unfold dE;rw[decide_eq_false (by omega)];rfl
theorem sG{l:List Sp}(h:l.length<=64):dE l=fP 0 l:=by unfold dE;rw[decide_eq_true h];rfl
theorem sI{least:Int}{l:List Sp}{k:Nat}{x:Sp}(hx:l[k]? =some x)(h1:x.lo.may=true)(h2:x.hi.may=true)(h3:least<=x.lo.rank)(h4:x.lo.rank<=x.hi.rank):fP least (l.drop k)=fP (x.hi.rank+2) (l.drop (k+1)):=by
 have hk:=(gS hx).1;rw[List.drop_eq_getElem_cons hk,(gS hx).2];rw[fP,h1,h2,decide_eq_true h3,decide_eq_true h4];rfl
theorem sH{least:Int}{l:List Sp}{k:Nat}{x:Sp}(hx:l[k]? =some x)(h:¬(x.lo.may=true/\x.hi.may=true/\least<=x.lo.rank/\x.lo.rank<=x.hi.rank)):fP least (l.drop k)=false:=by
 have hk:=(gS hx).1;rw[List.drop_eq_getElem_cons hk,(gS hx).2];refine Bool.eq_false_iff.2 fun hs=>h ?_;unfold fP at hs;simp only[Bool.and_eq_true,decide_eq_true_eq]at hs;exact⟨hs.1,hs.2.1,hs.2.2.1,hs.2.2.2.1⟩
theorem kF(v:Ve):0<=v.rank/\v.rank<=999999999:=by
 unfold Ve.rank;by_cases h:V.may v.a v.b v.c=true
 ·exact V.Ox h
 ·rw[V.rank_no (by simpa using h)];omega
end Top
end
section
open Top
theorem nJ(w:World)(v:Value)(l:List Sp)(h:iH w w.heap.size v l)(hn:l.length<=4611686018427387904):
 Calls Tryz.prog 70 #[v] w fun e w'=>e=.returned (.bool (dE l))/\Below w.heap.size w w':=by
 by_cases hbig:64<l.length
 ·obtain⟨a,cap,rfl⟩:=RowZ.form h;rw[lM]at*;have HF:=Hd (oL hbig);obtain⟨N,hN⟩:∃N,N=l.length:=⟨_,rfl⟩;rw[<-hN]at hbig hn |-;clear h hN;go_enter Tryz.func70,Tryz.ntmps70;go_wp2;go_returns;exact⟨by rw[HF.out];rfl,by go_grown⟩
 have HS:=Hd (sG (l:=l) (by omega));by_cases h0:l.length=0
 ·obtain⟨a,cap,rfl⟩:=RowZ.form h;rw[lM,h0];have HF:Hid (dE l=true):=Hd (by rw[List.length_eq_zero_iff.1 h0];rfl);clear h hn h0 hbig HS;go_enter Tryz.func70,Tryz.ntmps70;go_wp2;refine wp_loop_rounds 1 ?_;rw[rounds_succ];go_wp2;go_returns;exact⟨by rw[HF.out];rfl,by go_grown⟩
 obtain⟨bk,o,cap,rfl,hcap,hbk,hat⟩:=h.at (by omega);obtain⟨N,hN⟩:∃N,N=l.length:=⟨_,rfl⟩;rw[<-hN]at hbig hn h0 hcap |-;have HN:=Hd hN;have HAT:=Hd hat;clear h hat hN;go_enter Tryz.func70,Tryz.ntmps70;go_wp2;go_loopw [15,3] (fun p q wr=>∃(k:Nat) (least:Int),p=.int .i64 k/\q=.int .i64 least/\k<=N/\0<=least/\least<=1000000001/\dE l=fP least (l.drop k)/\Below w.heap.size w wr) (fun p _ _=>N-(intOf p).toNat);case atStart=>exact⟨0,0,rfl,rfl,by omega,by omega,by omega,HS.out,by go_grown⟩
 case round=>
  obtain⟨k,least,rfl,rfl,hk,hl0,hl1,hsp,hb⟩:=hrel;have HSP:=Hd hsp;clear hsp;by_cases hkN:k<N
  ·obtain⟨x,hx⟩:∃x,l[k]? =some x:=⟨_,gE (by have:=HN.out;omega)⟩;obtain⟨e0,e1,e2,e3,e4,e5⟩:=HAT.out k x hx;have HX:=Hd hx;have hr1:=kF x.lo;have hr2:=kF x.hi;rw[<-hb.cell (p:=⟨bk,o+k*6,none⟩) hbk]at e0;rw[<-hb.cell (p:=⟨bk,o+k*6+1,none⟩) hbk]at e1;rw[<-hb.cell (p:=⟨bk,o+k*6+2,none⟩) hbk]at e2;rw[<-hb.cell (p:=⟨bk,o+k*6+3,none⟩) hbk]at e3;rw[<-hb.cell (p:=⟨bk,o+k*6+4,none⟩) hbk]at e4;rw[<-hb.cell (p:=⟨bk,o+k*6+5,none⟩) hbk]at e5;obtain⟨⟨a,b,c⟩,⟨a',b',c'⟩⟩:=x;dsimp only at e0 e1 e2 e3 e4 e5;obtain⟨r1,hR1⟩:∃r,r=Ve.rank ⟨a,b,c⟩:=⟨_,rfl⟩;obtain⟨r2,hR2⟩:∃r,r=Ve.rank ⟨a',b',c'⟩:=⟨_,rfl⟩;obtain⟨m1,hM1⟩:∃r,r=Ve.may ⟨a,b,c⟩:=⟨_,rfl⟩;obtain⟨m2,hM2⟩:∃r,r=Ve.may ⟨a',b',c'⟩:=⟨_,rfl⟩;have HR1:Hid (∀W,Calls Tryz.prog 115 #[.agg #[.int .i64 a,.int .i64 b,.int .i64 c]] W fun e w'=>e=.returned (.tuple #[.int .i64 r1,.bool m1])/\Below W.heap.size W w'):=Hd (fun W=>by rw[hR1,hM1];exact VL.qC a b c W)
   have HR2:Hid (∀W,Calls Tryz.prog 115 #[.agg #[.int .i64 a',.int .i64 b',.int .i64 c']] W fun e w'=>e=.returned (.tuple #[.int .i64 r2,.bool m2])/\Below W.heap.size W w'):=Hd (fun W=>by rw[hR2,hM2];exact VL.qC a' b' c' W);have HNO:Hid (¬(m1=true/\m2=true/\least<=r1/\r1<=r2)->dE l=false):=Hd (fun h=>by rw[HSP.out];exact sH HX.out (by rw[hM1,hM2,hR1,hR2]at h;exact h));have HYES:Hid (m1=true->m2=true->least<=r1->r1<=r2->dE l=fP (r2+2) (l.drop (k+1))):=Hd (fun h1 h2 h3 h4=>by rw[HSP.out,hR2];exact sI HX.out (by rw[<-h1,hM1]) (by rw[<-h2,hM2]) (by rw[<-hR1];exact h3) (by rw[<-hR1,<-hR2];exact h4));rw[<-hR1]at hr1;rw[<-hR2]at hr2;clear hx hR1 hR2 hM1 hM2;obtain⟨wa,hwa⟩:∃y,y=wr.alloc (.cells #[.int .i64 a,.int .i64 b,.int .i64 c,.int .i64 a',.int .i64 b',.int .i64 c'] 73):=⟨_,rfl⟩
   have hba:Below w.heap.size w wa:=by rw[hwa];exact hb.alloc hb.size _
   have hza:wa.heap.size=wr.heap.size+1:=by rw[hwa];exact Array.size_push ..
   have HCA:Hid (∀W,Below wa.heap.size wa W->W.cell? ⟨wr.heap.size,3,none⟩=some (.int .i64 a')/\W.cell? ⟨wr.heap.size,4,none⟩=some (.int .i64 b')/\W.cell? ⟨wr.heap.size,5,none⟩=some (.int .i64 c')):=Hd (fun W hW=>by
    refine⟨?_,?_,?_⟩
    ·rw[hW.cell (p:=⟨wr.heap.size,3,none⟩) (by show wr.heap.size<_;omega),hwa];exact World.cell?_alloc_at _ _ _ _ rfl
    ·rw[hW.cell (p:=⟨wr.heap.size,4,none⟩) (by show wr.heap.size<_;omega),hwa];exact World.cell?_alloc_at _ _ _ _ rfl
    ·rw[hW.cell (p:=⟨wr.heap.size,5,none⟩) (by show wr.heap.size<_;omega),hwa];exact World.cell?_alloc_at _ _ _ _ rfl)
   have HWA:=Hd hwa;clear hwa;go_wp2_with fail;rw[<-HWA.out];refine(HR1.out _).mono ?_;rintro e w2 ⟨rfl,hb2⟩;obtain⟨d3,d4,d5⟩:=HCA.out w2 hb2;have hbw2:=hba.trans (hb2.mono hba.size);clear e0 e1 e2 e3 e4 e5;go_wp2_with fail;refine(HR2.out _).mono ?_;rintro e w3 ⟨rfl,hb3⟩;have hbw3:=hbw2.trans (hb3.mono hbw2.size);have HB3:=Hd hbw3;clear d3 d4 d5 hb2 hb3 hbw2 hbw3;by_cases hall:m1=true/\m2=true/\least<=r1/\r1<=r2
   ·obtain⟨rfl,rfl,h3,h4⟩:=hall;have HNX:=Hd (HYES.out rfl rfl h3 h4);have h3':¬r1<least:=by omega
    have h4':¬r2<r1:=by omega
    go_wp2;go_roundw;case rel=>exact⟨k+1,r2+2,by go_num,rfl,by omega,by omega,by omega,HNX.out,HB3.out⟩
    case measure=>simp[intOf];omega
   ·have HF:=Hd (HNO.out hall);cases m1
    ·go_wp2;go_returns;exact⟨by rw[HF.out];rfl,HB3.out⟩
    ·cases m2
     ·go_wp2;go_returns;exact⟨by rw[HF.out];rfl,HB3.out⟩
     ·by_cases h3:r1<least
      ·clear hall;go_wp2;go_returns;exact⟨by rw[HF.out];rfl,HB3.out⟩
      ·have h4:r2<r1:=by
        refine Decidable.byContradiction fun h=>hall ⟨rfl,rfl,by omega,by omega⟩
       clear hall;go_wp2;go_returns;exact⟨by rw[HF.out];rfl,HB3.out⟩
  ·have hkk:k=N:=by omega
   have HF:Hid (dE l=true):=Hd (by rw[HSP.out,List.drop_of_length_le (by have:=HN.out;omega)];rfl);go_wp2;go_returns;exact⟨by rw[HF.out];rfl,hb⟩
end
end Go.Proofs.YtcohlmdnahdnaaaGreatDoor
