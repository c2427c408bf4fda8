/- A search goes back: the program's walk. -/
import Derived.Test.YtcohlmdnahdnaaaGreatDoorZRs7
namespace Go.Proofs.YtcohlmdnahdnaaaGreatDoor
open Go.RowKit
set_option linter.unusedVariables false
set_option linter.unusedSimpArgs false
set_option maxHeartbeats 16000000
set_option maxRecDepth 100000
section
open Top
theorem Bi:∀args w,(callFunc 47 args).run Tryz.prog w=.ok (.enter 47 args) w:=fun args w=>by kernel_rfl
theorem Kb(w:World)(y:Ch)(ca:Option Addr)(cn cc:Nat)(b g o n:Nat)(hb:w.cell? ⟨b,0,none⟩=some (.pointer (some ⟨g,o,none⟩)))(hg:w.cell? ⟨g,o,none⟩=some (.int .i64 n)):
 Calls Tryz.prog 47 #[.agg #[.int .i64 y.node,.string (bs y.name),.slice ca cn cc,.bool y.none,.int .i64 y.pos],.pointer (some ⟨b,0,none⟩)] w fun e w'=>e=.returned (.bool (y.node==n))/\Below w.heap.size w w':=by
 obtain⟨yn,ynm,yv,yno,yp⟩:=y;have HB:Hid (Below w.heap.size w (w.alloc (.cells #[.int .i64 yn,.string (bs ynm),.slice ca cn cc,.bool yno,.int .i64 yp] 65))):=Hd ((bR _ w).alloc nL _);have hlb:=lt_of_cell hb;have hlg:=lt_of_cell hg;have hb':=(aD (o:=.cells #[.int .i64 yn,.string (bs ynm),.slice ca cn cc,.bool yno,.int .i64 yp] 65) hlb).trans hb;have hg':=(aD (o:=.cells #[.int .i64 yn,.string (bs ynm),.slice ca cn cc,.bool yno,.int .i64 yp] 65) hlg).trans hg;clear hlb hlg hb hg;have HE:Hid (((yn:Int)==(n:Int))=(yn==n)):=Hd (by
  by_cases h:yn=n
  ·subst h;simp
  ·rw[beq_eq_false_iff_ne.2 h,beq_eq_false_iff_ne];omega)
 dsimp only;go_enter Tryz.func47,Tryz.ntmps47;go_upto_region 1 with fail;obtain⟨wb,hwb⟩:=ex (w.alloc (.cells #[.int .i64 yn,.string (bs ynm),.slice ca cn cc,.bool yno,.int .i64 yp] 65));have hn0:wb.cell? ⟨w.heap.size,0,none⟩=some (.int .i64 yn):=by rw[hwb];exact aB rfl rfl
 rw[<-hwb]at HB hb' hg' |-;have k1:wb.cell? ⟨w.heap.size,0,none⟩=some (.int .i64 yn)/\wb.cell? ⟨b,0,none⟩=some (.pointer (some ⟨g,o,none⟩))/\wb.cell? ⟨g,o,none⟩=some (.int .i64 n):=⟨hn0,hb',hg'⟩;clear hwb hb' hg' hn0;refine rG (fun w'=>w'.cell? ⟨w.heap.size,0,none⟩=some (.int .i64 yn)/\w'.cell? ⟨b,0,none⟩=some (.pointer (some ⟨g,o,none⟩))/\w'.cell? ⟨g,o,none⟩=some (.int .i64 n)) k1 fun hU=>?_;refine aM [0,1,2,3,4,5,6,7] ?_;refine dN ?_;go_wp2_with fail;go_returns;exact⟨by rw[HE.out];rfl,HB.out.trans ((bR _ wb).drew.mono HB.out.size)⟩
namespace Top
theorem Dw(l:List Ch)(n:Nat)(h:∃y∈l,y.node=n):aN (fun i=>match l[i]? with | some y=>y.node==n | none=>false) l.length=((l.takeWhile fun y=>y.node !=n).length:Int):=by
 have hs:∀(l:List Ch),(∃y∈l,y.node=n)->(l.takeWhile fun y=>y.node !=n).length<l.length/\(∀y,l[(l.takeWhile fun y=>y.node !=n).length]? =some y->y.node=n)/\∀j y,j<(l.takeWhile fun y=>y.node !=n).length->l[j]? =some y->y.node≠n:=by
  intro l;induction l with
  | nil=>rintro⟨y,hy,_⟩;simp at hy
  | cons x r ih=>
   intro h;by_cases hx:x.node=n
   ·rw[List.takeWhile_cons_of_neg (by simp[hx])];exact⟨by simp,fun y hy=>by simp at hy;rw[<-hy];exact hx,fun j y hj=>by simp at hj⟩
   ·rw[List.takeWhile_cons_of_pos (by simp[hx])];obtain⟨h1,h2,h3⟩:=ih (by
     obtain⟨y,hy,e⟩:=h;rcases List.mem_cons.1 hy with rfl | hy
     ·exact absurd e hx
     ·exact⟨y,hy,e⟩)
    refine⟨by simp only[lC];omega,fun y hy=>h2 y (by simpa using hy),fun j y hj hy=>?_⟩;cases j with
    | zero=>simp only[gZ,iS]at hy;subst hy;exact hx
    | succ j=>exact h3 j y (by simp only[lC]at hj;omega) (by simpa using hy)
 obtain⟨h1,h2,h3⟩:=hs l h;refine bH h1 ?_ fun j hj=>?_
 ·rw[gE h1];exact beq_iff_eq.2 (h2 _ (gE h1))
 ·rw[gE (by omega)];exact beq_eq_false_iff_ne.2 (h3 j _ hj (gE (by omega)))
theorem Dx{w:World}{base sb:Nat}{f:Fx}{s:St}{g n cap:Nat}{vn va vw vf:Value}{cs:List Value}{ce:List (Value×Value)}(h:Held w base sb f s (.slice (some ⟨g,0,none⟩) n cap) vn va vw vf cs ce){pre:List Ch}{x:Ch}(hs:s.stack=pre++[x])(b:Nat)(hb:w.cell? ⟨b,0,none⟩=some (.pointer (some ⟨g,pre.length*5,none⟩)))(hn:s.stack.length<=1000000:=by assumption):
 Calls Tryz.prog 46 #[.slice (some ⟨g,0,none⟩) n cap,.func (.func 47) #[] #[.pointer (some ⟨b,0,none⟩)]] w fun e w'=>e=.returned (.int .i64 (s.stack.takeWhile fun y=>y.node !=x.node).length)/\Below w.heap.size w w':=by
 have hcl:=h.r.cl;have hl:(List.zipWith gD s.stack cs).length=s.stack.length:=by rw[List.length_zipWith,hcl,Nat.min_self]
 have hx:s.stack[pre.length]? =some x:=by rw[hs];simp
 obtain⟨g',cap',c',hv,_,_,_,_,q0,_⟩:=h.r.ch hx;cases hv;have hc:=Bb w _ (List.zipWith gD s.stack cs) (fun i=>match s.stack[i]? with | some y=>y.node==x.node | none=>false) 47 #[.pointer (some ⟨b,0,none⟩)] Bi (RowZ.of_own vW hl h.r.st) vW (by rw[hl];omega) (fun i r hr W hW=>by
  have hi:=(gS hr).1;rw[hl]at hi;have hgx:s.stack[i]? =some (s.stack[i]'hi):=gE hi;have hcx:cs[i]? =some (cs[i]'(by omega)):=gE (by omega);have hre:r=gD (s.stack[i]'hi) (cs[i]'(by omega)):=by
   rw[List.getElem?_zipWith,hgx,hcx]at hr;exact(Option.some.inj hr).symm
  obtain⟨ca,cc,e2⟩:=(h.r.vr i _ _ hgx hcx).form;rw[hre,e2,hgx];exact Kb W (s.stack[i]'hi) ca _ cc b g (pre.length*5) x.node ((hW.cell (p:=⟨b,0,none⟩) (lt_of_cell hb)).trans hb) ((hW.cell (p:=⟨g,pre.length*5,none⟩) (lt_of_cell q0)).trans q0))
 rw[hl,Dw s.stack x.node ⟨x,by rw[hs];simp,rfl⟩]at hc;exact hc
end Top
theorem Og(w:World)(base sb:Nat)(f:Fx)(s:St)(vs vn va vw vf:Value)(cs:List Value)(ce:List (Value×Value))(h:Held w base sb f s vs vn va vw vf cs ce)(pre:List Ch)(x:Ch)(hs:s.stack=pre++[x])(ha:x.node<s.k->∃a,s.ahead[x.node]? =some a/\x.node<a/\a<=s.nodes.length)(nd:Nd)(hn:(s.again pre x).nodes[x.node]? =some nd)(hko:0<x.node->nC (nd.name,nd.v))(hN:s.nodes.length<=1000000)(hS:s.stack.length<=1000000)(hp:x.pos<=1000000):
 Calls Tryz.prog 19 #[.pointer (some ⟨sb,0,none⟩)] w fun e w'=>e=.returned (.tuple #[])/\Below base w w'/\∃vs' vn' va' a c cs' ce',Held w' base sb f (s.again pre x) vs' vn' va' (.slice a (f.pb.own x.node nd).length c) (.int .i64 ((s.again pre x).stack.takeWhile fun y=>y.node !=x.node).length) cs' ce'/\WtsO w' (kY sb vs' vn' va') (.slice a (f.pb.own x.node nd).length c) (f.pb.own x.node nd):=by
 obtain⟨P,hP⟩:=ex (pre.length);have hx:s.stack[P]? =some x:=by rw[hs,hP];simp
 have hSN:s.stack.length=P+1:=by rw[hs,hP];simp
 obtain⟨g,cap,c,hvs,hg1,hg2,hcs,hvr,q0,q1,q2,q3,q4⟩:=h.r.ch hx;rw[hSN]at hvs;subst hvs;obtain⟨na,nc,hvn⟩:=aC h.r.nd;obtain⟨aa,ac,hva⟩:=aC h.r.ah;obtain⟨NN,hNN⟩:=ex (s.nodes.length);obtain⟨K,hK⟩:=ex (s.k);have hva':va=.slice aa K ac:=by rw[hva,hK];rfl
 rw[<-hNN]at hvn;subst hvn;subst hva';obtain⟨w1,hw1⟩:=ex ((w.alloc (.cells #[.pointer (some ⟨g,P*5,none⟩)] 112)).drew);have hb1:Below w.heap.size w w1:=by rw[hw1];exact((bR _ w).alloc nL _).drew
 have a0:w1.cell? ⟨w.heap.size,0,none⟩=some (.pointer (some ⟨g,P*5,none⟩)):=by rw[hw1];exact(aB rfl rfl:(w.alloc (.cells #[.pointer (some ⟨g,P*5,none⟩)] 112)).cell? ⟨w.heap.size,0,none⟩=_)
 have a4:=(hb1.cell (p:=⟨g,P*5+4,none⟩) hg2).trans q4;have hs1:w1.heap.size=w.heap.size+1:=by rw[hw1];exact sA _ _
 obtain⟨w2,hw2⟩:=ex (w1.setCell ⟨g,P*5+4,none⟩ (.int .i64 ((x.pos:Int)+1)));have h2:Held w2 base sb f {s with stack:=pre++[{x with pos:=x.pos+1}]} (.slice (some ⟨g,0,none⟩) (P+1) cap) (.slice na NN nc) (.slice aa K ac) vw vf cs ce:=by
  have h1:=h.grow hb1;have hgs:sb≠g:=fun e=>by
   have:=bQ h.r.st h.k (by decide);rw[e]at this;exact this rfl
  have h3:=h1.r.tick hs (x.pos+1);rw[<-hP,show((x.pos+1:Nat):Int)=(x.pos:Int)+1 by omega]at h3;rw[hw2];exact⟨h1.k.grow (Below.heap_setCell _ _ _ _ hgs),h3,h1.ok.below ((bR base _).setCell hg1 _) nL,h1.sb⟩
 have hb2:Below base w w2:=by rw[hw2];exact(hb1.mono (Nat.le_of_lt h.size)).setCell hg1 _
 have r0:w2.cell? ⟨w.heap.size,0,none⟩=some (.pointer (some ⟨g,P*5,none⟩)):=by
  rw[hw2,cP (h:=by intro e;injection e with e1 e2;omega)];exact a0
 have hsbl:=h.k.lt;have t7:=h.k.cell 7;obtain⟨g',cap',c',hvs',_,_,_,_,u0,_⟩:=h2.r.ch (i:=P) (x:= {x with pos:=x.pos+1}) (by rw[hP];simp);have hgg:g'=g:=by simp at hvs';exact hvs'.1.symm
 rw[hgg]at u0;dsimp only at u0;have HB:=Hd hb2;have HH2:=Hd h2;have HW2:=Hd hw2;have HKO:=Hd hko;have HST:Hid ((s.again pre x).stack=pre++[{x with pos:=x.pos+1}]):=Hd (eO s pre x);have HXN:Hid (({x with pos:=x.pos+1}:Ch).node=x.node):=Hd rfl;have b8:=h2.k.cell 8;have b9:=h2.k.cell 9;have b7:=h2.k.cell 7;have hst:=h.r.st;rw[hSN]at hst;have hf4:w1.frozen? ⟨g,P*5+4,none⟩=false:=(World.frozen?_of_block (a:=⟨g,P*5+4,none⟩) (hb1.block g hg2)).trans (hst.frozenAt (P*5+4));clear hst;have HW1:=Hd hw1;have d7:w1.cell? ⟨sb,7,none⟩=some (.slice (some ⟨g,0,none⟩) (P+1) cap):=(hb1.cell (p:=⟨sb,7,none⟩) hsbl).trans t7;have b8':w2.cell? ⟨sb,8,none⟩=some (.slice na NN nc):=b8;have b9':w2.cell? ⟨sb,9,none⟩=some (.slice aa K ac):=b9;have t7':w.cell? ⟨sb,7,none⟩=some (.slice (some ⟨g,0,none⟩) (P+1) cap):=t7
 clear b8 b9 b7 t7 h2 hb2 hx hcs hvr q1 q2 q3 h hva;have hPz:P<=1000000:=by omega
 have hwr:IntKind.i64.wrap (P:Int)=P:=by rw[IntKind.wrap_i64];omega
 have hp1:(0:Int)<=(P:Int):=by omega
 have hp2:(P:Int)<(P:Int)+1:=by omega
 have HP:=Hd hP;have R0:=Hd r0;have U0:=Hd u0;have B8:=Hd b8';have B9:=Hd b9';have HNN:=Hd hNN;have HK:=Hd hK;have HHS:=Hd hs;have HN:=Hd hn;have hw21:w2.heap.size<=w.heap.size+1:=by rw[hw2];simp[hs1]
 have hw22:w.heap.size+1<=w2.heap.size:=by rw[hw2];simp[hs1]
 clear hP hNN hK hs hn hSN hw2 hvs' hw1 hs1 hb1 q4 u0 r0 b8' b9' hgg;go_enter Tryz.func19,Tryz.ntmps19;go_upto_region 0 with fail;refine rG (fun w'=>w'.cell? ⟨sb,7,none⟩=some (.slice (some ⟨g,0,none⟩) (P+1) cap)) t7' fun hU=>?_;refine aM [0,1,2,3,4,5,6,7,8,9,10] ?_;refine rd 11 fun K hK=>?_;go_simp;refine hK.out _ _ ((aD hsbl).trans t7') fun hU=>?_;clear hK K;try simp only[lay]
 refine rd 12 fun K hK=>?_;go_simp;rw[<-HW1.out];refine hK.out _ _ (d7) fun hU=>?_;clear hK K;try simp only[lay]
 refine dN ?_;go_upto_region 2 with fail;rw[<-HW2.out];have k2:w2.cell? ⟨w.heap.size,0,none⟩=some (.pointer (some ⟨g,P*5,none⟩))/\w2.cell? ⟨g,P*5,none⟩=some (.int .i64 x.node)/\w2.cell? ⟨sb,9,none⟩=some (.slice aa K ac):=⟨R0.out,U0.out,B9.out⟩;obtain⟨w3,hw3⟩:=ex (w2.drew);have hb3:Below w2.heap.size w2 w3:=by rw[hw3];exact(bR _ w2).drew
 have hz3:w3.heap.size=w2.heap.size:=by rw[hw3];rfl
 have HB3:=Hd hb3;have HW3:=Hd hw3;have HZ3:=Hd hz3;have e0:w3.cell? ⟨w.heap.size,0,none⟩=some (.pointer (some ⟨g,P*5,none⟩)):=by rw[hw3];exact R0.out
 have e1:w3.cell? ⟨g,P*5,none⟩=some (.int .i64 x.node):=by rw[hw3];exact U0.out
 clear hw3 hb3 hz3;by_cases hMK:x.node<K;have hkz:(x.node:Int)<(K:Int):=by omega
 obtain⟨a,ha1,ha2,ha3⟩:=ha (by rw[<-HK.out];exact hMK);have e8:w3.cell? ⟨sb,8,none⟩=some (.slice na NN nc):=HH2.out.k.grow (HB3.out.block sb HH2.out.k.lt) |>.cell 8
 have e9:w3.cell? ⟨sb,9,none⟩=some (.slice aa K ac):=HH2.out.k.grow (HB3.out.block sb HH2.out.k.lt) |>.cell 9
 have hf8:=(HH2.out.k.grow (HB3.out.block sb HH2.out.k.lt)).soft 8;have hf9:=(HH2.out.k.grow (HB3.out.block sb HH2.out.k.lt)).soft 9;obtain⟨ag,acp,hag,hag1,hag2,ea⟩:=(HH2.out.r.grow HB3.out).ahd ha1;have hagK:aa=some ⟨ag,0,none⟩:=by injection hag
 subst hagK;have hagsb:ag≠sb:=fun e=>by
  have:=bQ HH2.out.r.ah HH2.out.k (by decide);rw[<-e]at this;exact this rfl
 have hgsb:g≠sb:=fun e=>by
  have:=bQ HH2.out.r.st HH2.out.k (by decide);rw[<-e]at this;exact this rfl
 have hnc:NN<=nc:=by
  rcases HH2.out.r.nd.2 with⟨e1,e2⟩ | ⟨g1,c1,cur,e1,_,_,h4,_⟩
  ·cases e1;omega
  ·injection e1 with _ e2 e3;subst e3;rw[HNN.out];exact h4
 have hkc:K<=ac:=by
  rcases HH2.out.r.ah.2 with⟨e1,e2⟩ | ⟨g1,c1,cur,e1,_,_,h4,_⟩
  ·cases e1
  ·injection e1 with _ e2 e3;subst e3;rw[HK.out];exact h4
 have hNa:=HNN.out;have haz:(a:Int)<=(nc:Int):=by omega
 have hxz:(x.node:Int)<=(ac:Int):=by omega
 have hsb2:sb<w.heap.size:=hsbl;clear hag hnc hkc ha hNa;refine rG (fun w'=>w'.cell? ⟨w.heap.size,0,none⟩=some (.pointer (some ⟨g,P*5,none⟩))/\w'.cell? ⟨g,P*5,none⟩=some (.int .i64 x.node)/\w'.cell? ⟨sb,9,none⟩=some (.slice (some ⟨ag,0,none⟩) K ac)) k2 fun hU=>?_;refine aM [0,1,2,3,4,5,6,7,8,9] ?_;refine dN ?_;rw[<-HW3.out];go_upto_region 3 with fail;have k3:w3.cell? ⟨w.heap.size,0,none⟩=some (.pointer (some ⟨g,P*5,none⟩))/\w3.cell? ⟨g,P*5,none⟩=some (.int .i64 x.node)/\w3.cell? ⟨sb,9,none⟩=some (.slice (some ⟨ag,0,none⟩) K ac)/\w3.cell? ⟨ag,x.node,none⟩=some (.int .i64 a):=⟨e0,e1,e9,ea⟩;refine rG (fun w'=>w'.cell? ⟨w.heap.size,0,none⟩=some (.pointer (some ⟨g,P*5,none⟩))/\w'.cell? ⟨g,P*5,none⟩=some (.int .i64 x.node)/\w'.cell? ⟨sb,9,none⟩=some (.slice (some ⟨ag,0,none⟩) K ac)/\w'.cell? ⟨ag,x.node,none⟩=some (.int .i64 a)) k3 fun hU=>?_
 refine aM [0,1,2,3,5,6,7,8,9,10,11,12,13,14] ?_;refine rd 4 fun K hK=>?_;go_simp;refine hK.out _ _ (hU) fun hU=>?_;clear hK K;refine aM [15,16,17] ?_;refine rd 18 fun K hK=>?_;go_simp;refine hK.out _ _ (⟨(cO).trans k3.1,(cO).trans k3.2.1,(cO).trans k3.2.2.1,(cO).trans k3.2.2.2⟩) fun hU=>?_;clear hK K;try simp only[lay]
 refine dN ?_;obtain⟨w4,hw4⟩:=ex ((w3.setCell ⟨sb,8,none⟩ (.slice na a nc)).drew);rw[<-hw4];have hzz:w4.heap.size=w3.heap.size:=by rw[hw4];simp
 have k4:w4.cell? ⟨w.heap.size,0,none⟩=some (.pointer (some ⟨g,P*5,none⟩))/\w4.cell? ⟨g,P*5,none⟩=some (.int .i64 x.node):=⟨by rw[hw4];exact(cO).trans e0,by rw[hw4];exact(cO).trans e1⟩;have d9:w4.cell? ⟨sb,9,none⟩=some (.slice (some ⟨ag,0,none⟩) K ac):=by rw[hw4];exact(cO).trans e9
 have d9f:w4.frozen? ⟨sb,9,none⟩=false:=by rw[hw4];exact(World.frozen?_setCell _ _ _ _).trans hf9
 have HW4:=Hd hw4;clear hw4 k3 e0 e1 e8 e9 hf8 hf9 ea;go_upto_region 4 with fail;refine rG (fun w'=>w'.cell? ⟨w.heap.size,0,none⟩=some (.pointer (some ⟨g,P*5,none⟩))/\w'.cell? ⟨g,P*5,none⟩=some (.int .i64 x.node)) k4 fun hU=>?_;refine aM [0,1,2,3,5,6,7,8] ?_;refine rd 4 fun K hK=>?_;go_simp;refine hK.out _ _ (hU) fun hU=>?_;clear hK K;refine aM [9,10,11] ?_;refine rd 12 fun K hK=>?_;go_simp;refine hK.out _ _ (⟨(cO).trans k4.1,(cO).trans k4.2⟩) fun hU=>?_;clear hK K;try simp only[lay]
 refine dN ?_;obtain⟨w5,hw5⟩:=ex ((w4.setCell ⟨sb,9,none⟩ (.slice (some ⟨ag,0,none⟩) x.node ac)).drew);rw[<-hw5];have q1:w5.cell? ⟨w.heap.size,0,none⟩=some (.pointer (some ⟨g,P*5,none⟩)):=by rw[hw5];exact(cO).trans k4.1
 have u1:w5.cell? ⟨g,P*5,none⟩=some (.int .i64 x.node):=by rw[hw5];exact(cO).trans k4.2
 have h5:Held w5 base sb f (s.again pre x) (.slice (some ⟨g,0,none⟩) (P+1) cap) (.slice na a nc) (.slice (some ⟨ag,0,none⟩) x.node ac) vw vf cs (ce.take a):=by
  have j3:=HH2.out.k.grow (HB3.out.block sb HH2.out.k.lt);have r3:=(HH2.out.r.cut (m:=a) (j:=x.node) ha3 (by show x.node<=s.k;rw[<-HK.out];omega) (by omega)).grow HB3.out;have o3:=HH2.out.ok.below (HB3.out.mono (Nat.le_of_lt HH2.out.size)) nL;have j4:=j3.set8 (.slice na a nc);have r4:=(r3.set 8 (.slice na a nc) j3).grow (bR _ _).drew;have o4:=o3.below ((bR base w3).setCell (p:=⟨sb,8,none⟩) HH2.out.sb (.slice na a nc)).drew nL;have j4':pM (w3.setCell ⟨sb,8,none⟩ (.slice na a nc)).drew sb _ _ _ _ _ _ _ _ _ _ _ _:=j4;rw[<-HW4.out]at j4' r4 o4;have j5:=j4'.set9 (.slice (some ⟨ag,0,none⟩) x.node ac);have r5:=(r4.set 9 (.slice (some ⟨ag,0,none⟩) x.node ac) j4').grow (bR _ _).drew;have o5:=o4.below ((bR base w4).setCell (p:=⟨sb,9,none⟩) HH2.out.sb (.slice (some ⟨ag,0,none⟩) x.node ac)).drew nL;have j5':pM (w4.setCell ⟨sb,9,none⟩ (.slice (some ⟨ag,0,none⟩) x.node ac)).drew sb _ _ _ _ _ _ _ _ _ _ _ _:=j5
  rw[<-hw5]at j5' r5 o5;have e:s.again pre x=⟨pre++[{x with pos:=x.pos+1}],s.nodes.take a,s.ahead.take x.node,s.bound.take x.node⟩:=by
   unfold St.again;rw[if_pos (by rw[<-HK.out];exact hMK),ha1];rfl
  rw[e];exact⟨j5',r5,o5,HH2.out.sb⟩
 have HH:=Hd h5;have HND:=HN;have HNL:Hid ((s.again pre x).nodes.length<=1000000):=Hd (by unfold St.again;split<;>simp<;>omega);have HBX:Hid (Below base w w5):=Hd (by
  rw[hw5,HW4.out];exact HB.out.trans ((((HB3.out.mono (Nat.le_of_lt HH2.out.size)).setCell (p:=⟨sb,8,none⟩) HH2.out.sb _).drew.setCell (p:=⟨sb,9,none⟩) HH2.out.sb _).drew))
 have hgsb2:w.heap.size≠sb:=by omega
 clear k4 d9 d9f hw5 h5 HW4
 rotate_left
 have hkz:¬(x.node:Int)<(K:Int):=by omega
 refine rG (fun w'=>w'.cell? ⟨w.heap.size,0,none⟩=some (.pointer (some ⟨g,P*5,none⟩))/\w'.cell? ⟨g,P*5,none⟩=some (.int .i64 x.node)/\w'.cell? ⟨sb,9,none⟩=some (.slice aa K ac)) k2 fun hU=>?_;refine aM [0,1,2,3,4,5,6,7,8,9] ?_;refine dN ?_;rw[<-HW3.out];have h5:Held w3 base sb f (s.again pre x) (.slice (some ⟨g,0,none⟩) (P+1) cap) (.slice na NN nc) (.slice aa K ac) vw vf cs ce:=by
  have e:s.again pre x= {s with stack:=pre++[{x with pos:=x.pos+1}]}:=by
   unfold St.again;rw[if_neg (by rw[<-HK.out];exact hMK)]
  rw[e];exact HH2.out.grow HB3.out
 have q1:=e0;have u1:=e1;have HH:=Hd h5;have HND:=HN;have HNL:Hid ((s.again pre x).nodes.length<=1000000):=Hd (by unfold St.again;split<;>simp<;>omega);have HBX:Hid (Below base w w3):=Hd (HB.out.trans (HB3.out.mono (Nat.le_of_lt HH2.out.size)));have hgsb2:w.heap.size≠sb:=by omega
 clear h5
 rotate_left
 all_goals
  go_wp2_with fail;refine(wW HH.out x.node nd HND.out HKO.out HNL.out).mono ?_;rintro e w4 ⟨rfl,hb4,hkeep,ta,tc,h4,hwo⟩;have HB4:=Hd hb4;have HH4:=Hd h4;have HWO:=Hd hwo;have q2:w4.cell? ⟨w.heap.size,0,none⟩=some (.pointer (some ⟨g,P*5,none⟩)):=(World.cell?_of_block (a:=⟨w.heap.size,0,none⟩) (hkeep w.heap.size (lt_of_cell q1) hgsb2)).trans q1;have c7:w4.cell? ⟨sb,7,none⟩=some (.slice (some ⟨g,0,none⟩) (P+1) cap):=h4.k.cell 7;have c11:w4.cell? ⟨sb,11,none⟩=some vf:=h4.k.cell 11;have f11:=h4.k.soft 11;have HIX:=Hd (Dx h4 HST.out w.heap.size (by rw[<-HP.out];exact q2) (by have h1:=HHS.out;have h2:=HST.out;rw[h2];rw[h1]at hS;simpa using hS));clear h4 hwo hkeep hb4;go_wp2_with fail;refine HIX.out.mono ?_;rintro e w5 ⟨rfl,hb5⟩;have HB5:=Hd hb5;have d11:=(hb5.cell (p:=⟨sb,11,none⟩) (lt_of_cell c11)).trans c11
  have g11:w5.frozen? ⟨sb,11,none⟩=false:=(World.frozen?_of_block (a:=⟨sb,11,none⟩) (hb5.block sb (lt_of_cell c11))).trans f11;clear hb5;go_wp2_with fail;go_returns;have hx5:=HH4.out.grow HB5.out;exact⟨rfl,(HBX.out.trans HB4.out).trans ((HB5.out.mono (Nat.le_of_lt HH4.out.size)).trans ((bR base w5).setCell HH4.out.sb _)),_,_,_,ta,tc,_,_,hx5.set11 _,(HWO.out.keep HB5.out.size (fun j hj _=>HB5.out.block j hj) (fun j hj=> .inl hj)).keep (by simp) (fun j hj hm=>Below.heap_setCell _ _ _ _ fun e=>hm (.inl e)) fun j hj=> .inl hj⟩
end
end Go.Proofs.YtcohlmdnahdnaaaGreatDoor
