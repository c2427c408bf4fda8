/- slices.IndexFunc and ContainsFunc: the walks, for whatever function. -/
import Derived.Test.YtcohlmdnahdnaaaGreatDoorZStab
namespace Go.Proofs.YtcohlmdnahdnaaaGreatDoor
open Go.RowKit
set_option linter.unusedVariables false
set_option linter.unusedSimpArgs false
set_option maxHeartbeats 16000000
set_option maxRecDepth 100000
def aN(p:Nat->Bool)(n:Nat):Int:=match (List.range n).find? p with
 | some i=>(i:Int)
 | none=> -1
theorem bH{p:Nat->Bool}{n k:Nat}(hk:k<n)(h:p k=true)(hb:∀j,j<k->p j=false):aN p n=(k:Int):=by
 unfold aN;have e:(List.range n).find? p=some k:=by
  rw[List.find?_eq_some_iff_getElem];refine⟨h,k,by rw[List.length_range];exact hk,by rw[List.getElem_range],fun j hj=>?_⟩;rw[List.getElem_range,hb j hj];rfl
 rw[e]
theorem dQ{p:Nat->Bool}{n:Nat}(hb:∀j,j<n->p j=false):aN p n= -1:=by
 unfold aN;have e:(List.range n).find? p=none:=by
  rw[List.find?_eq_none];intro j hj;rw[hb j (List.mem_range.1 hj)];decide
 rw[e]
theorem gW(p:Nat->Bool)(n:Nat):(∃k,k<n/\p k=true/\(∀j,j<k->p j=false)/\aN p n=(k:Int))\/((∀j,j<n->p j=false)/\aN p n= -1):=by
 by_cases h:∃k,k<n/\p k=true
 ·obtain⟨k,hk⟩:=h;have hex:∃k,k<n/\p k=true/\∀j,j<k->p j=false:=by
   induction k using Nat.strongRecOn with
   | ind k ih=>
    by_cases hj:∃j,j<k/\p j=true
    ·obtain⟨j,hj1,hj2⟩:=hj;exact ih j hj1 ⟨by omega,hj2⟩
    ·exact⟨k,hk.1,hk.2,fun j hj'=>by
      cases hp:p j
      ·rfl
      ·exact absurd ⟨j,hj',hp⟩ hj⟩
  obtain⟨k,h1,h2,h3⟩:=hex;exact Or.inl ⟨k,h1,h2,h3,bH h1 h2 h3⟩
 ·have hn:∀j,j<n->p j=false:=fun j hj=>by
   cases hp:p j
   ·rfl
   ·exact absurd ⟨j,hj,hp⟩ h
  exact Or.inr ⟨hn,dQ hn⟩
theorem Ba(w:World)(v:Value)(xs:List (List Value))(p:Nat->Bool)(f:Nat)(caps:Array Value)(hen:∀args w,(callFunc f args).run Tryz.prog w=.ok (.enter f args) w)(h:RowZ 6 w w.heap.size v xs)(hz:∀x∈xs,x.length=6)(hn:xs.length<=4611686018427387904)
 (hp:∀(i:Nat) x,xs[i]? =some x->∀w',Below w.heap.size w w'->Calls Tryz.prog f (#[.agg ⟨x⟩]++caps) w' fun e w''=>e=.returned (.bool (p i))/\Below w'.heap.size w' w''):
 Calls Tryz.prog 121 #[v,.func (.func f) #[] caps] w fun e w'=>e=.returned (.int .i64 (aN p xs.length))/\Below w.heap.size w w':=by
 obtain⟨N,hN⟩:∃N,N=xs.length:=⟨_,rfl⟩;obtain⟨a0,c0',hv⟩:=h.form;rw[<-hN]at hv hn |-;have HN:=Hd hN;have HP:=Hd hp;have HZ:=Hd hz;have HROW:=Hd h;subst hv;clear h hp hz hN;go_enter Tryz.func121,Tryz.ntmps121;go_wp2;go_loopw [8] (fun q wr=>∃k:Nat,q=.int .i64 k/\k<=N/\(∀j,j<k->p j=false)/\Below w.heap.size w wr) (fun q _=>N-(intOf q).toNat);case atStart=>exact⟨0,rfl,by omega,fun j hj=>absurd hj (by omega),bR _ _⟩
 case round=>
  obtain⟨k,rfl,hk,hno,hb⟩:=hrel;have HNO:=Hd hno;clear hno;by_cases hkN:k<N
  ·obtain⟨x,hx⟩:∃x,xs[k]? =some x:=⟨_,gE (by have:=HN.out;omega)⟩;obtain⟨bk,o,cap,hve,hcap,hbk,hat⟩:=HROW.out.some (by have:=HN.out;omega);rw[<-HN.out]at hve;cases hve;have hxl:=HZ.out x (mG hx);obtain⟨c0,c1,c2,c3,c4,c5,rfl⟩:∃c0 c1 c2 c3 c4 c5,x=[c0,c1,c2,c3,c4,c5]:=by
    match x,hxl with
    | [c0,c1,c2,c3,c4,c5],_=>exact⟨c0,c1,c2,c3,c4,c5,rfl⟩
   have e0:=(hb.cell (p:=⟨bk,o+k*6+0,none⟩) hbk).trans (hat k _ hx 0 _ rfl);have e1:=(hb.cell (p:=⟨bk,o+k*6+1,none⟩) hbk).trans (hat k _ hx 1 _ rfl);have e2:=(hb.cell (p:=⟨bk,o+k*6+2,none⟩) hbk).trans (hat k _ hx 2 _ rfl);have e3:=(hb.cell (p:=⟨bk,o+k*6+3,none⟩) hbk).trans (hat k _ hx 3 _ rfl);have e4:=(hb.cell (p:=⟨bk,o+k*6+4,none⟩) hbk).trans (hat k _ hx 4 _ rfl);have e5:=(hb.cell (p:=⟨bk,o+k*6+5,none⟩) hbk).trans (hat k _ hx 5 _ rfl);have e0':wr.cell? ⟨bk,o+k*6,none⟩=some c0:=e0;clear e0;have HC:=Hd (HP.out k _ hx wr hb);clear hx hat hxl hcap;cases hpk:p k
   ·rw[hpk]at HC;have HNX:Hid (∀j,j<k+1->p j=false):=Hd (fun j hj=>by
     rcases Nat.lt_or_ge j k with h | h
     ·exact HNO.out j h
     ·rw[show j=k by omega];exact hpk)
    clear hpk;go_wp2_with fail;refine HC.out.mono ?_;rintro e w2 ⟨rfl,hb2⟩;have hb2':=hb.trans (hb2.mono hb.size);go_wp2;go_roundw;case rel=>exact⟨k+1,by go_num,by omega,HNX.out,hb2'⟩
    case measure=>simp[intOf];omega
   ·rw[hpk]at HC;have HF:Hid (aN p N=(k:Int)):=Hd (bH hkN hpk HNO.out);clear hpk;go_wp2_with fail;refine HC.out.mono ?_;rintro e w2 ⟨rfl,hb2⟩;go_wp2;go_returns;exact⟨by rw[HF.out];rfl,hb.trans (hb2.mono hb.size)⟩
  ·have HF:Hid (aN p N= -1):=Hd (dQ fun j hj=>HNO.out j (by omega));go_wp2;go_returns;exact⟨by rw[HF.out];rfl,hb⟩
theorem vT(w:World)(v:Value)(xs:List (List Value))(p:Nat->Bool)(f:Nat)(caps:Array Value)(hen:∀args w,(callFunc f args).run Tryz.prog w=.ok (.enter f args) w)(h:RowZ 6 w w.heap.size v xs)(hz:∀x∈xs,x.length=6)(hn:xs.length<=4611686018427387904)
 (hp:∀(i:Nat) x,xs[i]? =some x->∀w',Below w.heap.size w w'->Calls Tryz.prog f (#[.agg ⟨x⟩]++caps) w' fun e w''=>e=.returned (.bool (p i))/\Below w'.heap.size w' w''):
 Calls Tryz.prog 76 #[v,.func (.func f) #[] caps] w fun e w'=>e=.returned (.bool ((List.range xs.length).any p))/\Below w.heap.size w w':=by
 have HI:=Hd (Ba w v xs p f caps hen h hz hn hp);have HR:Hid (((List.range xs.length).any p=true/\0<=aN p xs.length)\/((List.range xs.length).any p=false/\aN p xs.length= -1)):=Hd (by
  rcases gW p xs.length with⟨k,h1,h2,_,h4⟩ | ⟨h1,h2⟩
  ·exact Or.inl ⟨List.any_eq_true.2 ⟨k,List.mem_range.2 h1,h2⟩,by rw[h4];omega⟩
  ·refine Or.inr ⟨List.any_eq_false.2 fun j hj=>by rw[h1 j (List.mem_range.1 hj)];decide,h2⟩)
 obtain⟨i,hi⟩:∃i,i=aN p xs.length:=⟨_,rfl⟩;rw[<-hi]at HI HR;clear hi h hz hn hp hen;go_enter Tryz.func76,Tryz.ntmps76;go_wp2_with fail;refine HI.out.mono ?_;rintro e w2 ⟨rfl,hb2⟩;rcases HR.out with⟨h1,h2⟩ | ⟨h1,h2⟩
 ·have HF:=Hd h1;have hq:¬i<0:=by omega
  have hq2:(0:Int)<=i:=h2;clear h1 h2;go_wp2;go_returns;exact⟨by rw[HF.out];first | rfl | simp[hq2],hb2⟩
 ·have HF:=Hd h1;subst h2;clear h1;go_wp2;go_returns;exact⟨by rw[HF.out];rfl,hb2⟩
theorem mM(w:World)(v:Value)(xs:List (List Value))(p:Nat->Bool)(f:Nat)(caps:Array Value)(hen:∀args w,(callFunc f args).run Tryz.prog w=.ok (.enter f args) w)(h:RowZ 4 w w.heap.size v xs)(hz:∀x∈xs,x.length=4)(hn:xs.length<=4611686018427387904)
 (hp:∀(i:Nat) x,xs[i]? =some x->∀w',Below w.heap.size w w'->Calls Tryz.prog f (#[.agg ⟨x⟩]++caps) w' fun e w''=>e=.returned (.bool (p i))/\Below w'.heap.size w' w''):
 Calls Tryz.prog 93 #[v,.func (.func f) #[] caps] w fun e w'=>e=.returned (.int .i64 (aN p xs.length))/\Below w.heap.size w w':=by
 obtain⟨N,hN⟩:∃N,N=xs.length:=⟨_,rfl⟩;obtain⟨a0,c0',hv⟩:=h.form;rw[<-hN]at hv hn |-;have HN:=Hd hN;have HP:=Hd hp;have HZ:=Hd hz;have HROW:=Hd h;subst hv;clear h hp hz hN;go_enter Tryz.func93,Tryz.ntmps93;go_wp2;go_loopw [8] (fun q wr=>∃k:Nat,q=.int .i64 k/\k<=N/\(∀j,j<k->p j=false)/\Below w.heap.size w wr) (fun q _=>N-(intOf q).toNat);case atStart=>exact⟨0,rfl,by omega,fun j hj=>absurd hj (by omega),bR _ _⟩
 case round=>
  obtain⟨k,rfl,hk,hno,hb⟩:=hrel;have HNO:=Hd hno;clear hno;by_cases hkN:k<N
  ·obtain⟨x,hx⟩:∃x,xs[k]? =some x:=⟨_,gE (by have:=HN.out;omega)⟩;obtain⟨bk,o,cap,hve,hcap,hbk,hat⟩:=HROW.out.some (by have:=HN.out;omega);rw[<-HN.out]at hve;cases hve;have hxl:=HZ.out x (mG hx);obtain⟨c0,c1,c2,c3,rfl⟩:∃c0 c1 c2 c3,x=[c0,c1,c2,c3]:=by
    match x,hxl with
    | [c0,c1,c2,c3],_=>exact⟨c0,c1,c2,c3,rfl⟩
   have e0:=(hb.cell (p:=⟨bk,o+k*4+0,none⟩) hbk).trans (hat k _ hx 0 _ rfl);have e1:=(hb.cell (p:=⟨bk,o+k*4+1,none⟩) hbk).trans (hat k _ hx 1 _ rfl);have e2:=(hb.cell (p:=⟨bk,o+k*4+2,none⟩) hbk).trans (hat k _ hx 2 _ rfl);have e3:=(hb.cell (p:=⟨bk,o+k*4+3,none⟩) hbk).trans (hat k _ hx 3 _ rfl);have e0':wr.cell? ⟨bk,o+k*4,none⟩=some c0:=e0;clear e0;have HC:=Hd (HP.out k _ hx wr hb);clear hx hat hxl hcap;cases hpk:p k
   ·rw[hpk]at HC;have HNX:Hid (∀j,j<k+1->p j=false):=Hd (fun j hj=>by
     rcases Nat.lt_or_ge j k with h | h
     ·exact HNO.out j h
     ·rw[show j=k by omega];exact hpk)
    clear hpk;go_wp2_with fail;refine HC.out.mono ?_;rintro e w2 ⟨rfl,hb2⟩;have hb2':=hb.trans (hb2.mono hb.size);go_wp2;go_roundw;case rel=>exact⟨k+1,by go_num,by omega,HNX.out,hb2'⟩
    case measure=>simp[intOf];omega
   ·rw[hpk]at HC;have HF:Hid (aN p N=(k:Int)):=Hd (bH hkN hpk HNO.out);clear hpk;go_wp2_with fail;refine HC.out.mono ?_;rintro e w2 ⟨rfl,hb2⟩;go_wp2;go_returns;exact⟨by rw[HF.out];rfl,hb.trans (hb2.mono hb.size)⟩
  ·have HF:Hid (aN p N= -1):=Hd (dQ fun j hj=>HNO.out j (by omega));go_wp2;go_returns;exact⟨by rw[HF.out];rfl,hb⟩
theorem vU(w:World)(v:Value)(xs:List (List Value))(p:Nat->Bool)(f:Nat)(caps:Array Value)(hen:∀args w,(callFunc f args).run Tryz.prog w=.ok (.enter f args) w)(h:RowZ 4 w w.heap.size v xs)(hz:∀x∈xs,x.length=4)(hn:xs.length<=4611686018427387904)
 (hp:∀(i:Nat) x,xs[i]? =some x->∀w',Below w.heap.size w w'->Calls Tryz.prog f (#[.agg ⟨x⟩]++caps) w' fun e w''=>e=.returned (.bool (p i))/\Below w'.heap.size w' w''):
 Calls Tryz.prog 94 #[v,.func (.func f) #[] caps] w fun e w'=>e=.returned (.bool ((List.range xs.length).any p))/\Below w.heap.size w w':=by
 have HI:=Hd (mM w v xs p f caps hen h hz hn hp);have HR:Hid (((List.range xs.length).any p=true/\0<=aN p xs.length)\/((List.range xs.length).any p=false/\aN p xs.length= -1)):=Hd (by
  rcases gW p xs.length with⟨k,h1,h2,_,h4⟩ | ⟨h1,h2⟩
  ·exact Or.inl ⟨List.any_eq_true.2 ⟨k,List.mem_range.2 h1,h2⟩,by rw[h4];omega⟩
  ·refine Or.inr ⟨List.any_eq_false.2 fun j hj=>by rw[h1 j (List.mem_range.1 hj)];decide,h2⟩)
 obtain⟨i,hi⟩:∃i,i=aN p xs.length:=⟨_,rfl⟩;rw[<-hi]at HI HR;clear hi h hz hn hp hen;go_enter Tryz.func94,Tryz.ntmps94;go_wp2_with fail;refine HI.out.mono ?_;rintro e w2 ⟨rfl,hb2⟩;rcases HR.out with⟨h1,h2⟩ | ⟨h1,h2⟩
 ·have HF:=Hd h1;have hq:¬i<0:=by omega
  have hq2:(0:Int)<=i:=h2;clear h1 h2;go_wp2;go_returns;exact⟨by rw[HF.out];first | rfl | simp[hq2],hb2⟩
 ·have HF:=Hd h1;subst h2;clear h1;go_wp2;go_returns;exact⟨by rw[HF.out];rfl,hb2⟩
theorem sW(w:World)(v:Value)(xs:List (List Value))(p:Nat->Bool)(f:Nat)(caps:Array Value)(hen:∀args w,(callFunc f args).run Tryz.prog w=.ok (.enter f args) w)(h:RowZ 3 w w.heap.size v xs)(hz:∀x∈xs,x.length=3)(hn:xs.length<=4611686018427387904)
 (hp:∀(i:Nat) x,xs[i]? =some x->∀w',Below w.heap.size w w'->Calls Tryz.prog f (#[.agg ⟨x⟩]++caps) w' fun e w''=>e=.returned (.bool (p i))/\Below w'.heap.size w' w''):
 Calls Tryz.prog 124 #[v,.func (.func f) #[] caps] w fun e w'=>e=.returned (.int .i64 (aN p xs.length))/\Below w.heap.size w w':=by
 obtain⟨N,hN⟩:∃N,N=xs.length:=⟨_,rfl⟩;obtain⟨a0,c0',hv⟩:=h.form;rw[<-hN]at hv hn |-;have HN:=Hd hN;have HP:=Hd hp;have HZ:=Hd hz;have HROW:=Hd h;subst hv;clear h hp hz hN;go_enter Tryz.func124,Tryz.ntmps124;go_wp2;go_loopw [8] (fun q wr=>∃k:Nat,q=.int .i64 k/\k<=N/\(∀j,j<k->p j=false)/\Below w.heap.size w wr) (fun q _=>N-(intOf q).toNat);case atStart=>exact⟨0,rfl,by omega,fun j hj=>absurd hj (by omega),bR _ _⟩
 case round=>
  obtain⟨k,rfl,hk,hno,hb⟩:=hrel;have HNO:=Hd hno;clear hno;by_cases hkN:k<N
  ·obtain⟨x,hx⟩:∃x,xs[k]? =some x:=⟨_,gE (by have:=HN.out;omega)⟩;obtain⟨bk,o,cap,hve,hcap,hbk,hat⟩:=HROW.out.some (by have:=HN.out;omega);rw[<-HN.out]at hve;cases hve;have hxl:=HZ.out x (mG hx);obtain⟨c0,c1,c2,rfl⟩:∃c0 c1 c2,x=[c0,c1,c2]:=by
    match x,hxl with
    | [c0,c1,c2],_=>exact⟨c0,c1,c2,rfl⟩
   have e0:=(hb.cell (p:=⟨bk,o+k*3+0,none⟩) hbk).trans (hat k _ hx 0 _ rfl);have e1:=(hb.cell (p:=⟨bk,o+k*3+1,none⟩) hbk).trans (hat k _ hx 1 _ rfl);have e2:=(hb.cell (p:=⟨bk,o+k*3+2,none⟩) hbk).trans (hat k _ hx 2 _ rfl);have e0':wr.cell? ⟨bk,o+k*3,none⟩=some c0:=e0;clear e0;have HC:=Hd (HP.out k _ hx wr hb);clear hx hat hxl hcap;cases hpk:p k
   ·rw[hpk]at HC;have HNX:Hid (∀j,j<k+1->p j=false):=Hd (fun j hj=>by
     rcases Nat.lt_or_ge j k with h | h
     ·exact HNO.out j h
     ·rw[show j=k by omega];exact hpk)
    clear hpk;go_wp2_with fail;refine HC.out.mono ?_;rintro e w2 ⟨rfl,hb2⟩;have hb2':=hb.trans (hb2.mono hb.size);go_wp2;go_roundw;case rel=>exact⟨k+1,by go_num,by omega,HNX.out,hb2'⟩
    case measure=>simp[intOf];omega
   ·rw[hpk]at HC;have HF:Hid (aN p N=(k:Int)):=Hd (bH hkN hpk HNO.out);clear hpk;go_wp2_with fail;refine HC.out.mono ?_;rintro e w2 ⟨rfl,hb2⟩;go_wp2;go_returns;exact⟨by rw[HF.out];rfl,hb.trans (hb2.mono hb.size)⟩
  ·have HF:Hid (aN p N= -1):=Hd (dQ fun j hj=>HNO.out j (by omega));go_wp2;go_returns;exact⟨by rw[HF.out];rfl,hb⟩
theorem sZ(w:World)(v:Value)(xs:List (List Value))(p:Nat->Bool)(f:Nat)(caps:Array Value)(hen:∀args w,(callFunc f args).run Tryz.prog w=.ok (.enter f args) w)(h:RowZ 6 w w.heap.size v xs)(hz:∀x∈xs,x.length=6)(hn:xs.length<=4611686018427387904)
 (hp:∀(i:Nat) x,xs[i]? =some x->∀w',Below w.heap.size w w'->Calls Tryz.prog f (#[.agg ⟨x⟩]++caps) w' fun e w''=>e=.returned (.bool (p i))/\Below w'.heap.size w' w''):
 Calls Tryz.prog 43 #[v,.func (.func f) #[] caps] w fun e w'=>e=.returned (.int .i64 (aN p xs.length))/\Below w.heap.size w w':=by
 obtain⟨N,hN⟩:∃N,N=xs.length:=⟨_,rfl⟩;obtain⟨a0,c0',hv⟩:=h.form;rw[<-hN]at hv hn |-;have HN:=Hd hN;have HP:=Hd hp;have HZ:=Hd hz;have HROW:=Hd h;subst hv;clear h hp hz hN;go_enter Tryz.func43,Tryz.ntmps43;go_wp2;go_loopw [8] (fun q wr=>∃k:Nat,q=.int .i64 k/\k<=N/\(∀j,j<k->p j=false)/\Below w.heap.size w wr) (fun q _=>N-(intOf q).toNat);case atStart=>exact⟨0,rfl,by omega,fun j hj=>absurd hj (by omega),bR _ _⟩
 case round=>
  obtain⟨k,rfl,hk,hno,hb⟩:=hrel;have HNO:=Hd hno;clear hno;by_cases hkN:k<N
  ·obtain⟨x,hx⟩:∃x,xs[k]? =some x:=⟨_,gE (by have:=HN.out;omega)⟩;obtain⟨bk,o,cap,hve,hcap,hbk,hat⟩:=HROW.out.some (by have:=HN.out;omega);rw[<-HN.out]at hve;cases hve;have hxl:=HZ.out x (mG hx);obtain⟨c0,c1,c2,c3,c4,c5,rfl⟩:∃c0 c1 c2 c3 c4 c5,x=[c0,c1,c2,c3,c4,c5]:=by
    match x,hxl with
    | [c0,c1,c2,c3,c4,c5],_=>exact⟨c0,c1,c2,c3,c4,c5,rfl⟩
   have e0:=(hb.cell (p:=⟨bk,o+k*6+0,none⟩) hbk).trans (hat k _ hx 0 _ rfl);have e1:=(hb.cell (p:=⟨bk,o+k*6+1,none⟩) hbk).trans (hat k _ hx 1 _ rfl);have e2:=(hb.cell (p:=⟨bk,o+k*6+2,none⟩) hbk).trans (hat k _ hx 2 _ rfl);have e3:=(hb.cell (p:=⟨bk,o+k*6+3,none⟩) hbk).trans (hat k _ hx 3 _ rfl);have e4:=(hb.cell (p:=⟨bk,o+k*6+4,none⟩) hbk).trans (hat k _ hx 4 _ rfl);have e5:=(hb.cell (p:=⟨bk,o+k*6+5,none⟩) hbk).trans (hat k _ hx 5 _ rfl);have e0':wr.cell? ⟨bk,o+k*6,none⟩=some c0:=e0;clear e0;have HC:=Hd (HP.out k _ hx wr hb);clear hx hat hxl hcap;cases hpk:p k
   ·rw[hpk]at HC;have HNX:Hid (∀j,j<k+1->p j=false):=Hd (fun j hj=>by
     rcases Nat.lt_or_ge j k with h | h
     ·exact HNO.out j h
     ·rw[show j=k by omega];exact hpk)
    clear hpk;go_wp2_with fail;refine HC.out.mono ?_;rintro e w2 ⟨rfl,hb2⟩;have hb2':=hb.trans (hb2.mono hb.size);go_wp2;go_roundw;case rel=>exact⟨k+1,by go_num,by omega,HNX.out,hb2'⟩
    case measure=>simp[intOf];omega
   ·rw[hpk]at HC;have HF:Hid (aN p N=(k:Int)):=Hd (bH hkN hpk HNO.out);clear hpk;go_wp2_with fail;refine HC.out.mono ?_;rintro e w2 ⟨rfl,hb2⟩;go_wp2;go_returns;exact⟨by rw[HF.out];rfl,hb.trans (hb2.mono hb.size)⟩
  ·have HF:Hid (aN p N= -1):=Hd (dQ fun j hj=>HNO.out j (by omega));go_wp2;go_returns;exact⟨by rw[HF.out];rfl,hb⟩
theorem Bb(w:World)(v:Value)(xs:List (List Value))(p:Nat->Bool)(f:Nat)(caps:Array Value)(hen:∀args w,(callFunc f args).run Tryz.prog w=.ok (.enter f args) w)(h:RowZ 5 w w.heap.size v xs)(hz:∀x∈xs,x.length=5)(hn:xs.length<=4611686018427387904)
 (hp:∀(i:Nat) x,xs[i]? =some x->∀w',Below w.heap.size w w'->Calls Tryz.prog f (#[.agg ⟨x⟩]++caps) w' fun e w''=>e=.returned (.bool (p i))/\Below w'.heap.size w' w''):
 Calls Tryz.prog 46 #[v,.func (.func f) #[] caps] w fun e w'=>e=.returned (.int .i64 (aN p xs.length))/\Below w.heap.size w w':=by
 obtain⟨N,hN⟩:∃N,N=xs.length:=⟨_,rfl⟩;obtain⟨a0,c0',hv⟩:=h.form;rw[<-hN]at hv hn |-;have HN:=Hd hN;have HP:=Hd hp;have HZ:=Hd hz;have HROW:=Hd h;subst hv;clear h hp hz hN;go_enter Tryz.func46,Tryz.ntmps46;go_wp2;go_loopw [8] (fun q wr=>∃k:Nat,q=.int .i64 k/\k<=N/\(∀j,j<k->p j=false)/\Below w.heap.size w wr) (fun q _=>N-(intOf q).toNat);case atStart=>exact⟨0,rfl,by omega,fun j hj=>absurd hj (by omega),bR _ _⟩
 case round=>
  obtain⟨k,rfl,hk,hno,hb⟩:=hrel;have HNO:=Hd hno;clear hno;by_cases hkN:k<N
  ·obtain⟨x,hx⟩:∃x,xs[k]? =some x:=⟨_,gE (by have:=HN.out;omega)⟩;obtain⟨bk,o,cap,hve,hcap,hbk,hat⟩:=HROW.out.some (by have:=HN.out;omega);rw[<-HN.out]at hve;cases hve;have hxl:=HZ.out x (mG hx);obtain⟨c0,c1,c2,c3,c4,rfl⟩:∃c0 c1 c2 c3 c4,x=[c0,c1,c2,c3,c4]:=by
    match x,hxl with
    | [c0,c1,c2,c3,c4],_=>exact⟨c0,c1,c2,c3,c4,rfl⟩
   have e0:=(hb.cell (p:=⟨bk,o+k*5+0,none⟩) hbk).trans (hat k _ hx 0 _ rfl);have e1:=(hb.cell (p:=⟨bk,o+k*5+1,none⟩) hbk).trans (hat k _ hx 1 _ rfl);have e2:=(hb.cell (p:=⟨bk,o+k*5+2,none⟩) hbk).trans (hat k _ hx 2 _ rfl);have e3:=(hb.cell (p:=⟨bk,o+k*5+3,none⟩) hbk).trans (hat k _ hx 3 _ rfl);have e4:=(hb.cell (p:=⟨bk,o+k*5+4,none⟩) hbk).trans (hat k _ hx 4 _ rfl);have e0':wr.cell? ⟨bk,o+k*5,none⟩=some c0:=e0;clear e0;have HC:=Hd (HP.out k _ hx wr hb);clear hx hat hxl hcap;cases hpk:p k
   ·rw[hpk]at HC;have HNX:Hid (∀j,j<k+1->p j=false):=Hd (fun j hj=>by
     rcases Nat.lt_or_ge j k with h | h
     ·exact HNO.out j h
     ·rw[show j=k by omega];exact hpk)
    clear hpk;go_wp2_with fail;refine HC.out.mono ?_;rintro e w2 ⟨rfl,hb2⟩;have hb2':=hb.trans (hb2.mono hb.size);go_wp2;go_roundw;case rel=>exact⟨k+1,by go_num,by omega,HNX.out,hb2'⟩
    case measure=>simp[intOf];omega
   ·rw[hpk]at HC;have HF:Hid (aN p N=(k:Int)):=Hd (bH hkN hpk HNO.out);clear hpk;go_wp2_with fail;refine HC.out.mono ?_;rintro e w2 ⟨rfl,hb2⟩;go_wp2;go_returns;exact⟨by rw[HF.out];rfl,hb.trans (hb2.mono hb.size)⟩
  ·have HF:Hid (aN p N= -1):=Hd (dQ fun j hj=>HNO.out j (by omega));go_wp2;go_returns;exact⟨by rw[HF.out];rfl,hb⟩
end Go.Proofs.YtcohlmdnahdnaaaGreatDoor
