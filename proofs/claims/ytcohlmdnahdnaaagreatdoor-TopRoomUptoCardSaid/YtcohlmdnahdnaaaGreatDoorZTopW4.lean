/- May a list of dependencies be? The program's walk. -/
import Derived.Test.YtcohlmdnahdnaaaGreatDoorZSrt
import Derived.Test.YtcohlmdnahdnaaaGreatDoorZTopW2
namespace Go.Proofs.YtcohlmdnahdnaaaGreatDoor
open Go.RowKit
set_option linter.unusedVariables false
set_option linter.unusedSimpArgs false
set_option maxHeartbeats 16000000
set_option maxRecDepth 100000
section
namespace Top
def iG(l:List Dp)(j:Nat):Bool:=match l[j]? with
 | some d=>Scan.dG d.name&&(dE d.rg&&(!d.rg.isEmpty&&(decide (j=0) || match l[j-1]? with
  | some p=>bytesBefore p.name d.name
  | none=>true)))
 | none=>true
def bU(l:List Dp):Bool:=(List.range l.length).all (iG l)&&decide (l.length<=16)
theorem iA{l:List Dp}{j:Nat}(hj:j<l.length)(h:iG l j=false):bU l=false:=by
 unfold bU;rw[List.all_eq_false.2 ⟨j,List.mem_range.2 hj,by rw[h];decide⟩];rfl
theorem xV{l:List Dp}(h:∀j,j<l.length->iG l j=true):bU l=decide (l.length<=16):=by
 unfold bU;rw[List.all_eq_true.2 fun j hj=>h j (List.mem_range.1 hj)];rfl
theorem nY{l:List Dp}{j:Nat}{d:Dp}(hd:l[j]? =some d):iG l j=(Scan.dG d.name&&(dE d.rg&&(!d.rg.isEmpty&&(decide (j=0) || match l[j-1]? with
 | some p=>bytesBefore p.name d.name
 | none=>true)))):=by unfold iG;rw[hd]
def zQ(d:Dp):Prop:=d.name.length<=9223372036854775807/\d.rg.length<=4611686018427387904
end Top
open Top
theorem rW(w:World)(v:Value)(l:List Dp)(h:DpsAt w w.heap.size v l)(hz:∀d∈l,zQ d)(hn:l.length<=4611686018427387904):
 Calls Tryz.prog 57 #[v] w fun e w'=>e=.returned (.bool (bU l))/\Below w.heap.size w w':=by
 obtain⟨a0,c0,hv⟩:=h.form;obtain⟨N,hN⟩:=ex (l.length);rw[<-hN]at hv hn;have HN:=Hd hN;have HR:=Hd h;have HZ:=Hd hz;subst hv;clear h hz hN;go_enter Tryz.func57,Tryz.ntmps57;go_wp2;go_loopw [7] (fun p wr=>∃k:Nat,p=.int .i64 k/\k<=N/\(∀j,j<k->iG l j=true)/\Below w.heap.size w wr) (fun p _=>N-(intOf p).toNat);case atStart=>exact⟨0,rfl,by omega,fun j hj=>absurd hj (by omega),bR _ _⟩
 case round=>
  obtain⟨k,rfl,hk,hall,hb⟩:=hrel;obtain⟨wo,rfl⟩:∃x,x=wr:=⟨wr,rfl⟩;have HALL:=Hd hall;have HB:=Hd hb;clear hall;by_cases hkN:k<N
  ·obtain⟨x,hx⟩:∃x,l[k]? =some x:=⟨_,gE (by have:=HN.out;omega)⟩;obtain⟨bk,o,cap,hve,hcap,hbk,hat⟩:=HR.out.at (by have:=HN.out;omega);rw[<-HN.out]at hve;cases hve;obtain⟨ra,rc,hrg,e0,e1⟩:=hat k x hx;have HAT:=Hd hat;have hzx:=HZ.out x (mG hx);rw[<-hb.cell (p:=⟨bk,o+k*2,none⟩) hbk]at e0;rw[<-hb.cell (p:=⟨bk,o+k*2+1,none⟩) hbk]at e1;have hbkw:bk<wo.heap.size:=Nat.lt_of_lt_of_le hbk hb.size;obtain⟨nm,rg⟩:=x;unfold zQ at hzx;dsimp only at hrg e0 e1 hzx;unfold sv at e0;obtain⟨M,hM⟩:=ex (rg.length);rw[<-hM]at hrg e1;have hMl:M<=4611686018427387904:=by omega
   have hns:(bs nm).size<=9223372036854775807:=by show nm.toArray.size<=_;rw[List.size_toArray];exact hzx.1
   have HGA:=Hd (nY hx);dsimp only at HGA;obtain⟨nok,hnok⟩:=ex (Scan.dG nm);obtain⟨mok,hmok⟩:=ex (dE rg);have HNM:Hid (∀W,Calls Tryz.prog 55 #[.string (bs nm)] W fun e w'=>e=.returned (.bool nok)/\Below W.heap.size W w'):=Hd (fun W=>by
    rw[hnok];exact vD (bs nm) hns W)
   have HSM:Hid (∀W,Below w.heap.size w W->Calls Tryz.prog 70 #[.slice ra M rc] W fun e w'=>e=.returned (.bool mok)/\Below W.heap.size W w'):=Hd (fun W hW=>by
    rw[hmok];exact nJ W _ rg ((RowZ.below hrg hW nL).mono hW.size) (by omega))
   have HEM:Hid (rg.isEmpty=decide (M=0)):=Hd (by rw[hM];cases rg<;>simp);have HKN:Hid (k<l.length):=Hd (by have:=HN.out;omega);rw[<-hnok,<-hmok,HEM.out]at HGA;have HX:=Hd hx;have HNAMES:Hid (∀(i:Nat) y,l[i]? =some y->w.cell? ⟨bk,o+i*2,none⟩=some (sv y.name)/\y.name.length<=9223372036854775807):=Hd (fun i y hy=>by
    obtain⟨_,_,_,h1,_⟩:=HAT.out i y hy;exact⟨h1,(HZ.out y (mG hy)).1⟩)
   have HNXT:Hid (iG l k=true->∀j,j<k+1->iG l j=true):=Hd (fun h j hj=>by
    rcases Nat.lt_or_ge j k with h' | h'
    ·exact HALL.out j h'
    ·rw[show j=k by omega];exact h)
   clear hx hrg hzx hnok hmok hM hat hcap;cases nok
   ·have HF:Hid (bU l=false):=Hd (iA HKN.out (by rw[HGA.out];rfl));have HCA:Hid (∀W,Below (wo.alloc (.cells #[.string (bs nm),.slice ra M rc] 75)).heap.size (wo.alloc (.cells #[.string (bs nm),.slice ra M rc] 75)) W->(W.cell? ⟨wo.heap.size,0,none⟩=some (.string (bs nm))/\W.cell? ⟨wo.heap.size,1,none⟩=some (.slice ra M rc))/\Below w.heap.size w W):=Hd (fun W hW=>by
     have hwo:wo.heap.size<(wo.alloc (.cells #[.string (bs nm),.slice ra M rc] 75)).heap.size:=by simp
     have hw0:=HB.out.alloc HB.out.size (.cells #[.string (bs nm),.slice ra M rc] 75);have hw:=hw0.trans (hW.mono hw0.size);refine⟨⟨?_,?_⟩,hw⟩
     ·rw[hW.cell (p:=⟨wo.heap.size,0,none⟩) hwo];exact World.cell?_alloc_at _ _ _ _ rfl
     ·rw[hW.cell (p:=⟨wo.heap.size,1,none⟩) hwo];exact World.cell?_alloc_at _ _ _ _ rfl)
    have bx0:=bR (wo.alloc (.cells #[.string (bs nm),.slice ra M rc] 75)).heap.size (wo.alloc (.cells #[.string (bs nm),.slice ra M rc] 75));go_wp2;refine rG (fun w'=>w'.cell? ⟨wo.heap.size,0,none⟩=some (.string (bs nm))/\w'.cell? ⟨wo.heap.size,1,none⟩=some (.slice ra M rc)) (HCA.out _ (aF bx0)).1 fun hU=>?_;refine aM [0,1] ?_;refine rd 2 fun K hK=>?_;go_simp;go_at_call 55;refine(HNM.out _).mono ?_;rintro e wx1 ⟨rfl,bb⟩;have bx1:=(aF bx0).trans (bb.mono (aF bx0).size);clear bb;refine hK.out _ _ ((HCA.out _ bx1).1) fun hU=>?_;clear hK K;refine aM [3,4] ?_;refine wN [5,6,7,8] ?_;refine aM [9,10] ?_;refine wN [11,12,13,14] ?_;refine aM [15,16] ?_;refine wN [17,18,19,20,21,22,23,24,25,26,27,28,29] ?_;refine aM [30] ?_;refine dN ?_;go_wp2;go_returns;exact⟨by rw[HF.out];rfl,(HCA.out _ bx1).2⟩
   ·cases mok
    ·have HF:Hid (bU l=false):=Hd (iA HKN.out (by rw[HGA.out];rfl));have HCA:Hid (∀W,Below (wo.alloc (.cells #[.string (bs nm),.slice ra M rc] 75)).heap.size (wo.alloc (.cells #[.string (bs nm),.slice ra M rc] 75)) W->(W.cell? ⟨wo.heap.size,0,none⟩=some (.string (bs nm))/\W.cell? ⟨wo.heap.size,1,none⟩=some (.slice ra M rc))/\Below w.heap.size w W):=Hd (fun W hW=>by
      have hwo:wo.heap.size<(wo.alloc (.cells #[.string (bs nm),.slice ra M rc] 75)).heap.size:=by simp
      have hw0:=HB.out.alloc HB.out.size (.cells #[.string (bs nm),.slice ra M rc] 75);have hw:=hw0.trans (hW.mono hw0.size);refine⟨⟨?_,?_⟩,hw⟩
      ·rw[hW.cell (p:=⟨wo.heap.size,0,none⟩) hwo];exact World.cell?_alloc_at _ _ _ _ rfl
      ·rw[hW.cell (p:=⟨wo.heap.size,1,none⟩) hwo];exact World.cell?_alloc_at _ _ _ _ rfl)
     have bx0:=bR (wo.alloc (.cells #[.string (bs nm),.slice ra M rc] 75)).heap.size (wo.alloc (.cells #[.string (bs nm),.slice ra M rc] 75));go_wp2;refine rG (fun w'=>w'.cell? ⟨wo.heap.size,0,none⟩=some (.string (bs nm))/\w'.cell? ⟨wo.heap.size,1,none⟩=some (.slice ra M rc)) (HCA.out _ (aF bx0)).1 fun hU=>?_;refine aM [0,1] ?_;refine rd 2 fun K hK=>?_;go_simp;go_at_call 55;refine(HNM.out _).mono ?_;rintro e wx1 ⟨rfl,bb⟩;have bx1:=(aF bx0).trans (bb.mono (aF bx0).size);clear bb;refine hK.out _ _ ((HCA.out _ bx1).1) fun hU=>?_;clear hK K;refine aM [3,4,5,6] ?_;refine rd 7 fun K hK=>?_;go_simp;go_at_call 70;refine(HSM.out _ (HCA.out _ bx1).2).mono ?_;rintro e wx2 ⟨rfl,bb⟩;have bx2:=bx1.trans (bb.mono bx1.size);clear bb;refine hK.out _ _ ((HCA.out _ bx2).1) fun hU=>?_;clear hK K;refine aM [8,9,10] ?_;refine wN [11,12,13,14] ?_
     refine aM [15,16] ?_;refine wN [17,18,19,20,21,22,23,24,25,26,27,28,29] ?_;refine aM [30] ?_;refine dN ?_;go_wp2;go_returns;exact⟨by rw[HF.out];rfl,(HCA.out _ bx2).2⟩
    ·by_cases hm0:M=0
     ·have HF:Hid (bU l=false):=Hd (iA HKN.out (by rw[HGA.out,decide_eq_true hm0];rfl));subst hm0;have HCA:Hid (∀W,Below (wo.alloc (.cells #[.string (bs nm),.slice ra 0 rc] 75)).heap.size (wo.alloc (.cells #[.string (bs nm),.slice ra 0 rc] 75)) W->(W.cell? ⟨wo.heap.size,0,none⟩=some (.string (bs nm))/\W.cell? ⟨wo.heap.size,1,none⟩=some (.slice ra 0 rc))/\Below w.heap.size w W):=Hd (fun W hW=>by
       have hwo:wo.heap.size<(wo.alloc (.cells #[.string (bs nm),.slice ra 0 rc] 75)).heap.size:=by simp
       have hw0:=HB.out.alloc HB.out.size (.cells #[.string (bs nm),.slice ra 0 rc] 75);have hw:=hw0.trans (hW.mono hw0.size);refine⟨⟨?_,?_⟩,hw⟩
       ·rw[hW.cell (p:=⟨wo.heap.size,0,none⟩) hwo];exact World.cell?_alloc_at _ _ _ _ rfl
       ·rw[hW.cell (p:=⟨wo.heap.size,1,none⟩) hwo];exact World.cell?_alloc_at _ _ _ _ rfl)
      have bx0:=bR (wo.alloc (.cells #[.string (bs nm),.slice ra 0 rc] 75)).heap.size (wo.alloc (.cells #[.string (bs nm),.slice ra 0 rc] 75));go_wp2;refine rG (fun w'=>w'.cell? ⟨wo.heap.size,0,none⟩=some (.string (bs nm))/\w'.cell? ⟨wo.heap.size,1,none⟩=some (.slice ra 0 rc)) (HCA.out _ (aF bx0)).1 fun hU=>?_;refine aM [0,1] ?_;refine rd 2 fun K hK=>?_;go_simp;go_at_call 55;refine(HNM.out _).mono ?_;rintro e wx1 ⟨rfl,bb⟩;have bx1:=(aF bx0).trans (bb.mono (aF bx0).size);clear bb;refine hK.out _ _ ((HCA.out _ bx1).1) fun hU=>?_;clear hK K;refine aM [3,4,5,6] ?_;refine rd 7 fun K hK=>?_;go_simp;go_at_call 70;refine(HSM.out _ (HCA.out _ bx1).2).mono ?_;rintro e wx2 ⟨rfl,bb⟩;have bx2:=bx1.trans (bb.mono bx1.size);clear bb;refine hK.out _ _ ((HCA.out _ bx2).1) fun hU=>?_;clear hK K;refine aM [8,9,10,11,12,13,14,15,16] ?_
      refine wN [17,18,19,20,21,22,23,24,25,26,27,28,29] ?_;refine aM [30] ?_;refine dN ?_;go_wp2;go_returns;exact⟨by rw[HF.out];rfl,(HCA.out _ bx2).2⟩
     ·have hmz:(((M:Nat):Int)==0)=false:=by rw[beq_eq_false_iff_ne];omega
      have hmd:decide (M=0)=false:=decide_eq_false hm0;clear hm0;rcases Nat.eq_zero_or_pos k with hk0 | hk0
      ·have hd0:decide (0<k)=false:=decide_eq_false (by omega);have hd1:¬0<k:=by omega
       have HNX:=Hd (HNXT.out (by rw[HGA.out,hmd,decide_eq_true hk0];rfl));clear hk0;have HCA:Hid (∀W,Below (wo.alloc (.cells #[.string (bs nm),.slice ra M rc] 75)).heap.size (wo.alloc (.cells #[.string (bs nm),.slice ra M rc] 75)) W->(W.cell? ⟨wo.heap.size,0,none⟩=some (.string (bs nm))/\W.cell? ⟨wo.heap.size,1,none⟩=some (.slice ra M rc))/\Below w.heap.size w W):=Hd (fun W hW=>by
        have hwo:wo.heap.size<(wo.alloc (.cells #[.string (bs nm),.slice ra M rc] 75)).heap.size:=by simp
        have hw0:=HB.out.alloc HB.out.size (.cells #[.string (bs nm),.slice ra M rc] 75);have hw:=hw0.trans (hW.mono hw0.size);refine⟨⟨?_,?_⟩,hw⟩
        ·rw[hW.cell (p:=⟨wo.heap.size,0,none⟩) hwo];exact World.cell?_alloc_at _ _ _ _ rfl
        ·rw[hW.cell (p:=⟨wo.heap.size,1,none⟩) hwo];exact World.cell?_alloc_at _ _ _ _ rfl)
       have bx0:=bR (wo.alloc (.cells #[.string (bs nm),.slice ra M rc] 75)).heap.size (wo.alloc (.cells #[.string (bs nm),.slice ra M rc] 75));go_wp2;refine rG (fun w'=>w'.cell? ⟨wo.heap.size,0,none⟩=some (.string (bs nm))/\w'.cell? ⟨wo.heap.size,1,none⟩=some (.slice ra M rc)) (HCA.out _ (aF bx0)).1 fun hU=>?_;refine aM [0,1] ?_;refine rd 2 fun K hK=>?_;go_simp;go_at_call 55;refine(HNM.out _).mono ?_;rintro e wx1 ⟨rfl,bb⟩;have bx1:=(aF bx0).trans (bb.mono (aF bx0).size);clear bb;refine hK.out _ _ ((HCA.out _ bx1).1) fun hU=>?_;clear hK K;refine aM [3,4,5,6] ?_;refine rd 7 fun K hK=>?_;go_simp;go_at_call 70;refine(HSM.out _ (HCA.out _ bx1).2).mono ?_;rintro e wx2 ⟨rfl,bb⟩;have bx2:=bx1.trans (bb.mono bx1.size);clear bb;refine hK.out _ _ ((HCA.out _ bx2).1) fun hU=>?_;clear hK K;refine aM [8,9,10,11,12,13,14,15,16,17,18,19] ?_
       refine wN [20,21,22,23,24,25,26,27,28] ?_;refine aM [29,30] ?_;refine dN ?_;go_wp2;go_roundw;case rel=>exact⟨k+1,by go_num,by omega,HNX.out,(HCA.out _ bx2).2⟩
       case measure=>simp[intOf];omega
      ·obtain⟨i,hij⟩:∃i,i+1=k:=⟨k-1,by omega⟩;have hd0:decide (0<k)=true:=decide_eq_true hk0;have hw1:IntKind.i64.wrap ((k:Int)-1)=(i:Int):=by rw[IntWalk.i64_in _ (by omega)];omega
       have hw2:(i:Int)<(N:Int):=by omega
       obtain⟨y,hy⟩:∃y,l[i]? =some y:=⟨_,gE (by have:=HN.out;omega)⟩;obtain⟨p0,hpl⟩:=HNAMES.out i y hy;obtain⟨pm,hpm⟩:=ex (y.name);have hga:=HGA.out;rw[show k-1=i by omega,hy,decide_eq_false (show¬k=0 by omega)]at hga;dsimp only at hga;rw[<-hpm]at hga p0 hpl;unfold sv at p0;have HGA2:=Hd hga;clear hga hy hpm hij hk0;cases hbf:bytesBefore pm nm
       ·have HF:Hid (bU l=false):=Hd (iA HKN.out (by rw[HGA2.out,hmd,hbf];rfl));have HCA:Hid (∀W,Below (wo.alloc (.cells #[.string (bs nm),.slice ra M rc] 75)).heap.size (wo.alloc (.cells #[.string (bs nm),.slice ra M rc] 75)) W->(W.cell? ⟨wo.heap.size,0,none⟩=some (.string (bs nm))/\W.cell? ⟨wo.heap.size,1,none⟩=some (.slice ra M rc)/\W.cell? ⟨bk,o+i*2,none⟩=some (.string (bs pm)))/\Below w.heap.size w W):=Hd (fun W hW=>by
         have hwo:wo.heap.size<(wo.alloc (.cells #[.string (bs nm),.slice ra M rc] 75)).heap.size:=by simp
         have hw0:=HB.out.alloc HB.out.size (.cells #[.string (bs nm),.slice ra M rc] 75);have hw:=hw0.trans (hW.mono hw0.size);refine⟨⟨?_,?_,?_⟩,hw⟩
         ·rw[hW.cell (p:=⟨wo.heap.size,0,none⟩) hwo];exact World.cell?_alloc_at _ _ _ _ rfl
         ·rw[hW.cell (p:=⟨wo.heap.size,1,none⟩) hwo];exact World.cell?_alloc_at _ _ _ _ rfl
         ·rw[hw.cell (p:=⟨bk,o+i*2,none⟩) hbk];exact p0)
        have bx0:=bR (wo.alloc (.cells #[.string (bs nm),.slice ra M rc] 75)).heap.size (wo.alloc (.cells #[.string (bs nm),.slice ra M rc] 75));have hq1:Op.bytesLess (bs pm).toList (bs nm).toList=false:=by rw[aA,aA,Lock.vZ];exact hbf
        clear hbf;go_wp2;refine rG (fun w'=>w'.cell? ⟨wo.heap.size,0,none⟩=some (.string (bs nm))/\w'.cell? ⟨wo.heap.size,1,none⟩=some (.slice ra M rc)/\w'.cell? ⟨bk,o+i*2,none⟩=some (.string (bs pm))) (HCA.out _ (aF bx0)).1 fun hU=>?_;refine aM [0,1] ?_;refine rd 2 fun K hK=>?_;go_simp;go_at_call 55;refine(HNM.out _).mono ?_;rintro e wx1 ⟨rfl,bb⟩;have bx1:=(aF bx0).trans (bb.mono (aF bx0).size);clear bb;refine hK.out _ _ ((HCA.out _ bx1).1) fun hU=>?_;clear hK K;refine aM [3,4,5,6] ?_;refine rd 7 fun K hK=>?_;go_simp;go_at_call 70;refine(HSM.out _ (HCA.out _ bx1).2).mono ?_;rintro e wx2 ⟨rfl,bb⟩;have bx2:=bx1.trans (bb.mono bx1.size);clear bb;refine hK.out _ _ ((HCA.out _ bx2).1) fun hU=>?_;clear hK K;refine aM [8,9,10,11,12,13,14,15,16,17,18,19,20,21,22,23,24,25,26,27,28,29,30] ?_;refine dN ?_
        go_wp2;go_returns;exact⟨by rw[HF.out];rfl,(HCA.out _ bx2).2⟩
       ·have HNX:=Hd (HNXT.out (by rw[HGA2.out,hmd,hbf];rfl));have HCA:Hid (∀W,Below (wo.alloc (.cells #[.string (bs nm),.slice ra M rc] 75)).heap.size (wo.alloc (.cells #[.string (bs nm),.slice ra M rc] 75)) W->(W.cell? ⟨wo.heap.size,0,none⟩=some (.string (bs nm))/\W.cell? ⟨wo.heap.size,1,none⟩=some (.slice ra M rc)/\W.cell? ⟨bk,o+i*2,none⟩=some (.string (bs pm)))/\Below w.heap.size w W):=Hd (fun W hW=>by
         have hwo:wo.heap.size<(wo.alloc (.cells #[.string (bs nm),.slice ra M rc] 75)).heap.size:=by simp
         have hw0:=HB.out.alloc HB.out.size (.cells #[.string (bs nm),.slice ra M rc] 75);have hw:=hw0.trans (hW.mono hw0.size);refine⟨⟨?_,?_,?_⟩,hw⟩
         ·rw[hW.cell (p:=⟨wo.heap.size,0,none⟩) hwo];exact World.cell?_alloc_at _ _ _ _ rfl
         ·rw[hW.cell (p:=⟨wo.heap.size,1,none⟩) hwo];exact World.cell?_alloc_at _ _ _ _ rfl
         ·rw[hw.cell (p:=⟨bk,o+i*2,none⟩) hbk];exact p0)
        have bx0:=bR (wo.alloc (.cells #[.string (bs nm),.slice ra M rc] 75)).heap.size (wo.alloc (.cells #[.string (bs nm),.slice ra M rc] 75));have hq1:Op.bytesLess (bs pm).toList (bs nm).toList=true:=by rw[aA,aA,Lock.vZ];exact hbf
        clear hbf;go_wp2;refine rG (fun w'=>w'.cell? ⟨wo.heap.size,0,none⟩=some (.string (bs nm))/\w'.cell? ⟨wo.heap.size,1,none⟩=some (.slice ra M rc)/\w'.cell? ⟨bk,o+i*2,none⟩=some (.string (bs pm))) (HCA.out _ (aF bx0)).1 fun hU=>?_;refine aM [0,1] ?_;refine rd 2 fun K hK=>?_;go_simp;go_at_call 55;refine(HNM.out _).mono ?_;rintro e wx1 ⟨rfl,bb⟩;have bx1:=(aF bx0).trans (bb.mono (aF bx0).size);clear bb;refine hK.out _ _ ((HCA.out _ bx1).1) fun hU=>?_;clear hK K;refine aM [3,4,5,6] ?_;refine rd 7 fun K hK=>?_;go_simp;go_at_call 70;refine(HSM.out _ (HCA.out _ bx1).2).mono ?_;rintro e wx2 ⟨rfl,bb⟩;have bx2:=bx1.trans (bb.mono bx1.size);clear bb;refine hK.out _ _ ((HCA.out _ bx2).1) fun hU=>?_;clear hK K;refine aM [8,9,10,11,12,13,14,15,16,17,18,19,20,21,22,23,24,25,26,27,28,29,30] ?_;refine dN ?_
        go_wp2;go_roundw;case rel=>exact⟨k+1,by go_num,by omega,HNX.out,(HCA.out _ bx2).2⟩
        case measure=>simp[intOf];omega
  ·have HF:Hid (bU l=decide (N<=16)):=Hd (by
    rw[HN.out];exact xV fun j hj=>HALL.out j (by have:=HN.out;omega))
   go_wp2;go_returns;exact⟨by rw[HF.out];simp;omega,hb⟩
end
end Go.Proofs.YtcohlmdnahdnaaaGreatDoor
