/- May a manifest be? The walk. -/
import Derived.Test.YtcohlmdnahdnaaaGreatDoorZMf2
import Derived.Test.YtcohlmdnahdnaaaGreatDoorZMf3
import Derived.Test.YtcohlmdnahdnaaaGreatDoorZRs7
import Derived.Test.YtcohlmdnahdnaaaGreatDoorZWn7
namespace Go.Proofs.YtcohlmdnahdnaaaGreatDoor
open Go.RowKit
set_option linter.unusedVariables false
set_option linter.unusedSimpArgs false
set_option maxHeartbeats 16000000
set_option maxRecDepth 100000
section
open Top
theorem Bu(n:Nat):kK n []:=⟨by simp,fun d h=>by simp at h⟩
theorem xN(w:World)(m:Mf)(v1 v2 v3 v4:Value)(hpw:VL.bS w)(h:MfAt w w.heap.size m v1 v2 v3 v4)(hz:zP 1048576 m):
 Calls Tryz.prog 14 #[tX v1 v2 v3 v4] w fun e w'=>e=.returned (.bool (gH m))/\Below w.heap.size w w':=by
 obtain⟨a1,c1,e1⟩:=h.deps.form;obtain⟨a2,c2,e2⟩:=h.dev.form;obtain⟨a3,c3,e3⟩:=h.opts.form;obtain⟨a4,c4,e4⟩:=h.over.form;obtain⟨n1,hn1⟩:∃n,n=m.deps.length:=⟨_,rfl⟩;obtain⟨n2,hn2⟩:∃n,n=m.dev.length:=⟨_,rfl⟩;obtain⟨n3,hn3⟩:∃n,n=m.opts.length:=⟨_,rfl⟩;obtain⟨n4,hn4⟩:∃n,n=m.over.length:=⟨_,rfl⟩;rw[<-hn1]at e1;rw[<-hn2]at e2;rw[<-hn3]at e3;rw[<-hn4]at e4;subst e1 e2 e3 e4;obtain⟨b0,hb0⟩:∃b,b=fF m.deps m.dev m.opts:=⟨_,rfl⟩;obtain⟨b1,hb1⟩:∃b,b=fF m.over [] []:=⟨_,rfl⟩;obtain⟨T,hT⟩:∃t,t=Am m:=⟨_,rfl⟩;have HM1:Hid (∀W,Below w.heap.size w W->Calls Tryz.prog 32 #[.slice a1 n1 c1,.slice a2 n2 c2,.slice a3 n3 c3] W fun e w'=>e=.returned (.bool b0)/\Below W.heap.size W w'):=Hd (fun W hW=>by
  rw[hb0];exact xM W _ _ _ _ _ _ ((h.deps.below hW nL).mono hW.size) ((h.dev.below hW nL).mono hW.size) ((h.opts.below hW nL).mono hW.size) hz.1 hz.2.1 hz.2.2.1)
 have HM2:Hid (∀W,Below w.heap.size w W->Calls Tryz.prog 32 #[.slice a4 n4 c4,.slice none 0 0,.slice none 0 0] W fun e w'=>e=.returned (.bool b1)/\Below W.heap.size W w'):=Hd (fun W hW=>by
  rw[hb1];exact xM W _ _ _ _ _ _ ((h.over.below hW nL).mono hW.size) (DpsAt.nil _ _) (DpsAt.nil _ _) hz.2.2.2 (Bu _) (Bu _))
 have HTX:Hid (b0=true->b1=true->∀W,Below w.heap.size w W->Calls Tryz.prog 33 #[.agg #[.slice a1 n1 c1,.slice a2 n2 c2,.slice a3 n3 c3,.slice a4 n4 c4]] W fun e w'=>e=.returned (.string (bs T))/\Below W.heap.size W w'):=Hd (fun e0 e1 W hW=>by
  rw[hT];obtain⟨l1,l2,l3,_⟩:=qH (by rw[<-hb0];exact e0);obtain⟨l4,_⟩:=qH (by rw[<-hb1];exact e1);exact Dh W m _ _ _ _ (hpw.below hW nL) ((h.below hW nL).mono hW.size) ⟨l1,l2,l3,l4⟩)
 have HB0:=Hd hb0;have HB1:=Hd hb1;have HT:=Hd hT;obtain⟨wb,hwb⟩:∃y,y=w.alloc (.cells #[.slice a1 n1 c1,.slice a2 n2 c2,.slice a3 n3 c3,.slice a4 n4 c4] 25):=⟨_,rfl⟩;have hbb:Below w.heap.size w wb:=by rw[hwb];exact(bR _ _).alloc nL _
 have HCELL:Hid (∀W,Below wb.heap.size wb W->W.cell? ⟨w.heap.size,0,none⟩=some (.slice a1 n1 c1)/\W.cell? ⟨w.heap.size,1,none⟩=some (.slice a2 n2 c2)/\W.cell? ⟨w.heap.size,2,none⟩=some (.slice a3 n3 c3)/\W.cell? ⟨w.heap.size,3,none⟩=some (.slice a4 n4 c4)):=Hd (fun W hW=>by
  have h1:W.heap[w.heap.size]? =some (.cells #[.slice a1 n1 c1,.slice a2 n2 c2,.slice a3 n3 c3,.slice a4 n4 c4] 25 (0,0)):=by rw[hW.block _ (by rw[hwb];simp),hwb];exact heap_alloc_new w _
  refine⟨?_,?_,?_,?_⟩<;>(unfold World.cell?;rw[h1];rfl))
 have HWB:=Hd hwb;have HBB:=Hd hbb;have HX0:Hid (Below wb.heap.size wb wb):=Hd (bR _ _);obtain⟨q0,q1,q2,q3⟩:=HCELL.out wb HX0.out;unfold tX;clear h hz hpw hb0 hb1 hT hn1 hn2 hn3 hn4 hwb hbb;go_enter Tryz.func14,Tryz.ntmps14;go_upto_region 1 with fail;rw[<-HWB.out];go_wp2_with fail;refine(HM1.out _ HBB.out).mono ?_;rintro e w1 ⟨rfl,hb9⟩;have HXw1:Hid (Below wb.heap.size wb w1):=Hd (HX0.out.trans hb9);clear hb9 q0 q1 q2 q3;obtain⟨q0,q1,q2,q3⟩:=HCELL.out w1 HXw1.out;cases b0
 ·have HOK:Hid (gH m=false):=Hd (by unfold gH;rw[<-HB0.out];rfl);go_wp2;go_returns;exact⟨by rw[HOK.out];rfl,HBB.out.trans (HXw1.out.mono HBB.out.size)⟩
 go_wp2_with fail;refine(HM2.out _ (HBB.out.trans (HXw1.out.mono HBB.out.size))).mono ?_;rintro e w2 ⟨rfl,hb9⟩;have HXw2:Hid (Below wb.heap.size wb w2):=Hd (HXw1.out.trans (hb9.mono HXw1.out.size));clear hb9 q0 q1 q2 q3;obtain⟨q0,q1,q2,q3⟩:=HCELL.out w2 HXw2.out;cases b1
 ·have HOK:Hid (gH m=false):=Hd (by unfold gH;rw[<-HB0.out,<-HB1.out];rfl);go_wp2;go_returns;exact⟨by rw[HOK.out];rfl,HBB.out.trans (HXw2.out.mono HBB.out.size)⟩
 go_wp2_with fail;refine(HTX.out (by simp) (by simp) _ (HBB.out.trans (HXw2.out.mono HBB.out.size))).mono ?_;rintro e w3 ⟨rfl,hb9⟩;have HXw3:Hid (Below wb.heap.size wb w3):=Hd (HXw2.out.trans (hb9.mono HXw2.out.size));have HOK:Hid (gH m=decide (T.length<=4096)):=Hd (by unfold gH;rw[<-HB0.out,<-HB1.out,<-HT.out];rfl);clear hb9;go_wp2;go_returns;exact⟨by rw[HOK.out,eT];(try simp only[Nat.cast_le]);(try congr 2);(try simp);(try omega),HBB.out.trans (HXw3.out.mono HBB.out.size)⟩
end
section
open Top
theorem Bh:∀args w,(callFunc 44 args).run Tryz.prog w=.ok (.enter 44 args) w:=fun _ _=>by kernel_rfl
/-- The test of bind: the node that is looked for lies in a box. -/
theorem Jy(w:World)(b:Nat)(t x:Nd)(a d:Option Addr)(c c':Nat)(e:Value)(hc:bN w w.heap.size (.slice a x.ctx.length c) x.ctx)(hd:bN w w.heap.size (.slice d t.ctx.length c') t.ctx)(hn:x.ctx.length<=1000000000)(hn':t.ctx.length<=1000000000)
 (k1:w.cell? ⟨b,0,none⟩=some (.string (bs t.name)))(k2:w.cell? ⟨b,1,none⟩=some (.int .i64 t.v.a))(k3:w.cell? ⟨b,2,none⟩=some (.int .i64 t.v.b))(k4:w.cell? ⟨b,3,none⟩=some (.int .i64 t.v.c))(k5:w.cell? ⟨b,4,none⟩=some (.slice d t.ctx.length c')):
 Calls Tryz.prog 44 #[.agg #[sv x.name,.int .i64 x.v.a,.int .i64 x.v.b,.int .i64 x.v.c,.slice a x.ctx.length c,e],.pointer (some ⟨b,0,none⟩)] w fun e w'=>e=.returned (.bool (bO t x))/\Below w.heap.size w w':=by
 have HR:=Hd (xD t x);obtain⟨nm,⟨va,vb,vc⟩,cx,es⟩:=x;obtain⟨nm',⟨va',vb',vc'⟩,cx',es'⟩:=t;dsimp only at*;have hbl:=lt_of_cell k1;obtain⟨N,hN⟩:∃N,N=cx.length:=⟨_,rfl⟩;obtain⟨M,hM⟩:∃N,N=cx'.length:=⟨_,rfl⟩;have HE:Hid (∀W,Below w.heap.size w W->Calls Tryz.prog 45 #[.slice d M c',.slice a N c] W fun e w'=>e=.returned (.bool (decide (cx'=cx)))/\∃m,w'=W.drewN m):=Hd (fun W hW=>by
  rw[hN,hM];exact jR W _ _ cx' cx ((RowZ.below hd hW nL).mono hW.size) ((RowZ.below hc hW nL).mono hW.size) (by omega) (by omega))
 rw[<-hN]at hn |-;rw[<-hM]at hn' k5;have hbw:Below w.heap.size w (w.alloc (.cells #[.string (bs nm),.int .i64 va,.int .i64 vb,.int .i64 vc,.slice a N c,e] 57)):=(bR _ w).alloc nL _;have k1:=(hbw.cell (p:=⟨b,0,none⟩) hbl).trans k1;have k2:=(hbw.cell (p:=⟨b,1,none⟩) hbl).trans k2;have k3:=(hbw.cell (p:=⟨b,2,none⟩) hbl).trans k3;have k4:=(hbw.cell (p:=⟨b,3,none⟩) hbl).trans k4;have k5:=(hbw.cell (p:=⟨b,4,none⟩) hbl).trans k5;have HBW:=Hd hbw;clear hc hd hN hM hbw;unfold sv;cases h1:decide (nm'=nm)
 ·rw[h1]at HR;have hq:((bs nm').toList==(bs nm).toList)=false:=by rw[aA,aA];simpa using h1
  have hq2:¬(bs nm').toList=(bs nm).toList:=by rw[aA,aA];simpa using h1
  clear h1;go_enter Tryz.func44,Tryz.ntmps44;go_wp2;go_returns;exact⟨by rw[HR.out];rfl,HBW.out⟩
 ·rw[h1]at HR;have hq:((bs nm').toList==(bs nm).toList)=true:=by rw[aA,aA];simpa using h1
  have hq2:(bs nm').toList=(bs nm).toList:=by rw[aA,aA];simpa using h1
  clear h1;cases h2:VL.V.same va' vb' vc' va vb vc
  ·rw[h2]at HR;go_enter Tryz.func44,Tryz.ntmps44;go_wp2;go_returns;exact⟨by rw[HR.out];rfl,HBW.out⟩
  ·rw[h2]at HR;go_enter Tryz.func44,Tryz.ntmps44;go_wp2_with fail;refine(HE.out _ HBW.out).mono ?_;rintro e w' ⟨rfl,m,rfl⟩;go_wp2;go_returns;exact⟨by rw[HR.out];rfl,VL.below_drewN HBW.out m⟩
namespace Top
def Uz(o:Option Nat):Int:=match o with
 | some i=>(i:Int)
 | none=> -1
theorem Ae(nodes:List Nd)(t:Nd):aN (fun i=>match nodes[i]? with | some y=>bO t y | none=>false) nodes.length=Uz (place nodes t):=by
 unfold place;cases h:nodes.findIdx? (fun y=>bO t y)with
 | none=>
  rw[List.findIdx?_eq_none_iff]at h;refine dQ fun j hj=>?_;rw[gE hj];exact h _ (List.getElem_mem hj)
 | some i=>
  rw[List.findIdx?_eq_some_iff_getElem]at h;obtain⟨h1,h2,h3⟩:=h;refine bH h1 (by rw[gE h1];exact h2) fun j hj=>?_;rw[gE (by omega)];simpa using h3 j hj
theorem Pf{w:World}{base sb:Nat}{s:St}{vs vn va:Value}{cs:List Value}{ce:List (Value×Value)}(h:SrR w base sb s vs vn va cs ce)(b:Nat)(t:Nd)(d:Option Addr)(c':Nat)(hd:bN w w.heap.size (.slice d t.ctx.length c') t.ctx)(hn:s.nodes.length<=1000000)(hz:∀x∈s.nodes,x.ctx.length<=1000000)(hn':t.ctx.length<=1000000)
 (k1:w.cell? ⟨b,0,none⟩=some (.string (bs t.name)))(k2:w.cell? ⟨b,1,none⟩=some (.int .i64 t.v.a))(k3:w.cell? ⟨b,2,none⟩=some (.int .i64 t.v.b))(k4:w.cell? ⟨b,3,none⟩=some (.int .i64 t.v.c))(k5:w.cell? ⟨b,4,none⟩=some (.slice d t.ctx.length c')):
 Calls Tryz.prog 43 #[vn,.func (.func 44) #[] #[.pointer (some ⟨b,0,none⟩)]] w fun e w'=>e=.returned (.int .i64 (Uz (place s.nodes t)))/\Below w.heap.size w w':=by
 have hcl:=h.nl;have hl:(List.zipWith aP s.nodes ce).length=s.nodes.length:=by rw[List.length_zipWith,hcl,Nat.min_self]
 have hc:=sZ w _ (List.zipWith aP s.nodes ce) (fun i=>match s.nodes[i]? with | some y=>bO t y | none=>false) 44 #[.pointer (some ⟨b,0,none⟩)] Bh (RowZ.of_own oV hl h.nd) oV (by rw[hl];omega) (fun i r hr W hW=>by
  have hi:=(gS hr).1;rw[hl]at hi;have hgx:s.nodes[i]? =some (s.nodes[i]'hi):=gE hi;have hcx:ce[i]? =some (ce[i]'(by omega)):=gE (by omega);have hre:r=aP (s.nodes[i]'hi) (ce[i]'(by omega)):=by
   rw[List.getElem?_zipWith,hgx,hcx]at hr;exact(Option.some.inj hr).symm
  have hcr:=h.cr i _ _ hgx hcx;obtain⟨ca,cc,e2⟩:=hcr.form;have hrow:=hcr.row;rw[e2]at hrow;rw[hre,hgx];unfold aP;rw[e2];rw[lM]at hrow |-;have hbl:=lt_of_cell k1;exact Jy W b t (s.nodes[i]'hi) ca d cc c' (ce[i]'(by omega)).2 ((RowZ.below hrow hW nL).mono hW.size) ((RowZ.below hd hW nL).mono hW.size) (by have:=hz _ (List.getElem_mem hi);omega) (by omega) ((hW.cell (p:=⟨b,0,none⟩) hbl).trans k1) ((hW.cell (p:=⟨b,1,none⟩) hbl).trans k2) ((hW.cell (p:=⟨b,2,none⟩) hbl).trans k3) ((hW.cell (p:=⟨b,3,none⟩) hbl).trans k4) ((hW.cell (p:=⟨b,4,none⟩) hbl).trans k5))
 rw[hl,Ae]at hc;exact hc
end Top
end
section
namespace Top
structure Tg(w:World)(B:Nat)(v:Value)(ts:List Nd)(tc:List (Value×Value)):Prop where
 tl:tc.length=ts.length
 row:w.ownsRow B 57 6 v ts.length (List.zipWith aP ts tc).flatten
 ctx:∀(i:Nat) x c,ts[i]? =some x->tc[i]? =some c->∃a n c',c=(.slice a n n,.slice none 0 0)/\n=x.ctx.length/\aO w B (.slice a n c') x.ctx
theorem Tg.nil(w:World)(B:Nat):Tg w B (.slice none 0 0) [] []:=⟨rfl,World.ownsRow_nil _ _ _ _,fun i x c h=>by simp at h⟩
theorem Tg.under{w w':World}{B:Nat}{v:Value}{ts:List Nd}{tc:List (Value×Value)}(h:Tg w B v ts tc)(hb:Below w.heap.size w w'):Tg w' B v ts tc:=by
 refine⟨h.tl,h.row.kept (row:=none) ⟨hb.os,hb.tape,hb.output,hb.size,fun k hk _=>hb.block k hk⟩ (by cases v.ownBlock<;>simp),fun i x c hx hc=>?_⟩;obtain⟨a,n,c',h1,h2,h3⟩:=h.ctx i x c hx hc;exact⟨a,n,c',h1,h2,h3.under hb⟩
theorem Tg.kept{w w':World}{B:Nat}{v:Value}{ts:List Nd}{tc:List (Value×Value)}(h:Tg w B v ts tc){row:Option Nat}(hg:w.grownBy w' row)(h1:v.ownBlock=none\/v.ownBlock≠row)(h2:∀(u:Value) (n:Nat) (xs:List Value),w.ownsRow B 101 4 u n xs->u.ownBlock=none\/u.ownBlock≠row):Tg w' B v ts tc:=by
 refine⟨h.tl,h.row.kept hg h1,fun i x c hx hc=>?_⟩;obtain⟨a,n,c',g1,g2,g3⟩:=h.ctx i x c hx hc;exact⟨a,n,c',g1,g2,World.ownsRow.kept g3 hg (h2 _ _ _ g3)⟩
theorem Tg.add{w w':World}{B:Nat}{v v':Value}{ts:List Nd}{tc:List (Value×Value)}(h:Tg w B v ts tc){x:Nd}{a:Option Addr}{n c:Nat}(hg:w.grownBy w' v.ownBlock)(ho:w'.ownsRow B 57 6 v' (ts.length+1) ((List.zipWith aP ts tc).flatten++aP x (.slice a n n,.slice none 0 0)))(hn:n=x.ctx.length)(hc:aO w B (.slice a n c) x.ctx):Tg w' B v' (ts++[x]) (tc++[(.slice a n n,.slice none 0 0)]):=by
 refine⟨by simp[h.tl],?_,fun i y d hy hd=>?_⟩
 ·rw[lA,List.length_singleton,List.zipWith_append h.tl.symm,List.flatten_append];simpa using ho
 ·by_cases hi:i<ts.length
  ·rw[gL hi]at hy;rw[gL (by rw[h.tl];exact hi)]at hd;obtain⟨a',n',c',h1,h2,h3⟩:=h.ctx i y d hy hd;exact⟨a',n',c',h1,h2,World.ownsRow.kept h3 hg (aJ h3 h.row (by decide))⟩
  ·rw[List.getElem?_append_right (by omega)]at hy;rw[List.getElem?_append_right (by have:=h.tl;omega)]at hd;have e0:i-ts.length=0:=by
    have:=(gS hy).1;simp at this;omega
   rw[e0]at hy;rw[show i-tc.length=0 by have:=h.tl;omega]at hd;simp only[gZ,iS]at hy hd;subst hy;subst hd;exact⟨a,n,c,rfl,hn,World.ownsRow.kept hc hg (aJ hc h.row (by decide))⟩
theorem Tg.at{w:World}{B:Nat}{v:Value}{ts:List Nd}{tc:List (Value×Value)}(h:Tg w B v ts tc){i:Nat}{x:Nd}(hx:ts[i]? =some x):∃g cap a n c',v=.slice (some ⟨g,0,none⟩) ts.length cap/\B<=g/\g<w.heap.size/\n=x.ctx.length/\aO w B (.slice a n c') x.ctx/\
 w.cell? ⟨g,i*6,none⟩=some (sv x.name)/\w.cell? ⟨g,i*6+1,none⟩=some (.int .i64 x.v.a)/\w.cell? ⟨g,i*6+2,none⟩=some (.int .i64 x.v.b)/\w.cell? ⟨g,i*6+3,none⟩=some (.int .i64 x.v.c)/\w.cell? ⟨g,i*6+4,none⟩=some (.slice a n n)/\w.cell? ⟨g,i*6+5,none⟩=some (.slice none 0 0):=by
 have hi:=(gS hx).1;obtain⟨g,cap,e1,h1,h2⟩:=h.row.form (by omega);have hc:tc[i]? =some (tc[i]'(by rw[h.tl];exact hi)):=gE _;obtain⟨a,n,c',g1,g2,g3⟩:=h.ctx i x _ hx hc;have hst:=h.row;rw[e1]at hst;have key:∀(j:Nat) u,(aP x (tc[i]'(by rw[h.tl];exact hi)))[j]? =some u->w.cell? ⟨g,i*6+j,none⟩=some u:=fun j u hu=>by
  have hj:j<6:=(gS hu).1;rw[hst.cellAt (i*6+j) (by omega)];exact yT oV (nG hx hc) hu
 rw[g1]at key;exact⟨g,cap,a,n,c',e1,h1,h2,g2,g3,key 0 _ rfl,key 1 _ rfl,key 2 _ rfl,key 3 _ rfl,key 4 _ rfl,key 5 _ rfl⟩
structure Lk(w:World)(base sb gn:Nat)(f:Fx)(s:St)(vs va vw vf:Value)(ce:List (Value×Value))(vt:Value)(ts:List Nd)(tc:List (Value×Value))(wr:World)(vn:Value)(more:List Nd)(mc:List (Value×Value))(ve:Value)(es:List Eg):Prop where
 s0:base<=sb
 k:pM wr sb (.pointer (some ⟨f.s,0,none⟩)) f.v1 f.v2 f.v3 f.v4 f.dev f.vp vs vn va vw vf
 nd:wr.ownsRow base 57 6 vn (s.nodes++more).length (List.zipWith aP (s.nodes++more) (ce++mc)).flatten
 ml:mc.length=more.length
 mx:∀(i:Nat) x c,more[i]? =some x->mc[i]? =some c->∃a n c',c=(.slice a n n,.slice none 0 0)/\n=x.ctx.length/\aO wr w.heap.size (.slice a n c') x.ctx
 same:∀j,j<w.heap.size->j≠sb->j≠gn->wr.heap[j]? =w.heap[j]?
 vb:∀j,vn.ownBlock=some j->j=gn\/w.heap.size<=j
 bel:Below base w wr
 tg:Tg wr w.heap.size vt ts tc
 ap:∀j,vn.ownBlock=some j->vt.ownBlock≠some j
 eg:wr.ownsRow w.heap.size 111 2 ve es.length (es.map bT).flatten
 wb:base<=w.heap.size
section
variable{w:World}{base sb gn:Nat}{f:Fx}{s:St}{vs va vw vf:Value}{cs:List Value}{ce:List (Value×Value)}{vt:Value}{ts:List Nd}{tc:List (Value×Value)}{wr w':World}{vn:Value}{more:List Nd}{mc:List (Value×Value)}{ve:Value}{es:List Eg}
theorem Lk.start{NN nc:Nat}(h:Held w base sb f s vs (.slice (some ⟨gn,0,none⟩) NN nc) va vw vf cs ce)(hb:Below w.heap.size w wr)(ht:Tg wr w.heap.size vt ts tc):Lk w base sb gn f s vs va vw vf ce vt ts tc wr (.slice (some ⟨gn,0,none⟩) NN nc) [] [] (.slice none 0 0) []:=by
 have hw:=h.grow hb;refine⟨h.sb,hw.k,by rw[List.append_nil,List.append_nil];exact hw.r.nd,rfl,fun i x c hx=>by simp at hx,fun j hj _ _=>hb.block j hj,fun j hj=> .inl (by cases hj;rfl),hb.mono (Nat.le_of_lt h.size),ht,fun j hj e=>?_,World.ownsRow_nil _ _ _ _,Nat.le_of_lt h.size⟩;cases hj;have h1:=(ht.row.lt gn e).1;have h2:=(h.r.nd.lt gn rfl).2;omega
theorem Lk.grow(h:Lk w base sb gn f s vs va vw vf ce vt ts tc wr vn more mc ve es)(hb:Below wr.heap.size wr w'):Lk w base sb gn f s vs va vw vf ce vt ts tc w' vn more mc ve es:=by
 have hg:wr.grownBy w' none:=⟨hb.os,hb.tape,hb.output,hb.size,fun k hk _=>hb.block k hk⟩;have hne:∀v:Value,v.ownBlock=none\/v.ownBlock≠none:=fun v=>by cases v.ownBlock<;>simp
 have hs:=h.bel.size;refine⟨h.s0,h.k.grow (hb.block sb h.k.lt),h.nd.kept hg (hne _),h.ml,fun i x c hx hc=>?_,fun j hj h1 h2=>(hb.block j (by omega)).trans (h.same j hj h1 h2),h.vb,?_,h.tg.under hb,h.ap,h.eg.kept hg (hne _),h.wb⟩
 ·obtain⟨a,n,c',g1,g2,g3⟩:=h.mx i x c hx hc;exact⟨a,n,c',g1,g2,g3.under hb⟩
 ·exact h.bel.trans (hb.mono (Nat.le_trans h.s0 (Nat.le_of_lt h.k.lt)))
theorem Lk.edge(h:Lk w base sb gn f s vs va vw vf ce vt ts tc wr vn more mc ve es){ve':Value}{e:Eg}(hg:wr.grownBy w' ve.ownBlock)(ho:w'.ownsRow w.heap.size 111 2 ve' (es.length+1) ((es.map bT).flatten++bT e)):Lk w base sb gn f s vs va vw vf ce vt ts tc w' vn more mc ve' (es++[e]):=by
 have hsz:=h.bel.size;refine⟨h.s0,h.k.grow (hg.block sb h.k.lt (bQ h.eg h.k (by decide)).symm),h.nd.kept hg (aJ h.nd h.eg (by decide)),h.ml,fun i x c hx hc=>?_,fun j hj h1 h2=>(hg.block j (by omega) fun e=>?_).trans (h.same j hj h1 h2),h.vb,h.bel.grown hg (Nat.le_trans h.s0 (Nat.le_of_lt h.k.lt)) fun g hg'=>?_,h.tg.kept hg (aJ h.tg.row h.eg (by decide)) fun u n xs hu=>aJ hu h.eg (by decide),h.ap,?_,h.wb⟩
 ·obtain⟨a,n,c',g1,g2,g3⟩:=h.mx i x c hx hc;exact⟨a,n,c',g1,g2,World.ownsRow.kept g3 hg (aJ g3 h.eg (by decide))⟩
 ·have:=(h.eg.lt j e.symm).1;omega
 ·have:=(h.eg.lt g hg').1;have:=h.wb;omega
 ·rw[lA,List.length_singleton,List.map_append,List.flatten_append];simpa using ho
theorem Lk.node(h:Lk w base sb gn f s vs va vw vf ce vt ts tc wr vn more mc ve es){vn':Value}{x:Nd}{a:Option Addr}{n c:Nat}(hg:wr.grownBy w' vn.ownBlock)(ho:w'.ownsRow base 57 6 vn' ((s.nodes++more).length+1) ((List.zipWith aP (s.nodes++more) (ce++mc)).flatten++aP x (.slice a n n,.slice none 0 0)))(hat:∀k,vn'.ownBlock=some k->vn.ownBlock=some k\/wr.heap.size<=k)(hcl:ce.length=s.nodes.length)(hn:n=x.ctx.length)(hx:aO wr w.heap.size (.slice a n c) x.ctx):Lk w base sb gn f s vs va vw vf ce vt ts tc (w'.setCell ⟨sb,8,none⟩ vn') vn' (more++[x]) (mc++[(.slice a n n,.slice none 0 0)]) ve es:=by
 have hsz:=h.bel.size;have k1:=h.k.grow (hg.block sb h.k.lt (bQ h.nd h.k (by decide)).symm);have hg2:w'.grownBy (w'.setCell ⟨sb,8,none⟩ vn') (some sb):=⟨rfl,rfl,rfl,by simp,fun k hk hne=>Below.heap_setCell _ _ _ _ fun e=>hne (by rw[e])⟩;have kp:∀ {u:Value} {m:Nat} {xs:List Value},wr.ownsRow w.heap.size 101 4 u m xs->(w'.setCell ⟨sb,8,none⟩ vn').ownsRow w.heap.size 101 4 u m xs:=fun hu=>by
  have h1:=World.ownsRow.kept hu hg (aJ hu h.nd (by decide));exact h1.kept hg2 (.inr (bQ h1 k1 (by decide)))
 have t1:=h.tg.kept hg (by
  rcases hv:vn.ownBlock with _ | j
  ·cases vt.ownBlock<;>simp
  ·exact .inr (h.ap j hv)) fun u m xs hu=>aJ hu h.nd (by decide)
 have e1:=h.eg.kept hg (aJ h.eg h.nd (by decide));refine⟨h.s0,k1.set8 vn',?_,by simp[h.ml],fun i y d hy hd=>?_,fun j hj h1 h2=>((Below.heap_setCell _ _ _ _ h1).trans (hg.block j (by omega) fun e=>?_)).trans (h.same j hj h1 h2),fun j hj=>?_,?_,t1.kept hg2 (.inr (bQ t1.row k1 (by decide))) fun u m xs hu=> .inr (bQ hu k1 (by decide)),fun j hj=>?_,e1.kept hg2 (.inr (bQ e1 k1 (by decide))),h.wb⟩
 ·have h1:=ho.kept hg2 (.inr (bQ ho k1 (by decide)));rw[<-List.append_assoc,lA,List.length_singleton,<-List.append_assoc,List.zipWith_append (by simp[h.ml,hcl]),List.flatten_append];simpa using h1
 ·by_cases hi:i<more.length
  ·rw[gL hi]at hy;rw[gL (by rw[h.ml];exact hi)]at hd;obtain⟨a',n',c',g1,g2,g3⟩:=h.mx i y d hy hd;exact⟨a',n',c',g1,g2,kp g3⟩
  ·rw[List.getElem?_append_right (by omega)]at hy;rw[List.getElem?_append_right (by have:=h.ml;omega)]at hd;have e0:i-more.length=0:=by
    have:=(gS hy).1;simp at this;omega
   rw[e0]at hy;rw[show i-mc.length=0 by have:=h.ml;omega]at hd;simp only[gZ,iS]at hy hd;subst hy;subst hd;exact⟨a,n,c,rfl,hn,kp hx⟩
 ·rcases h.vb j e.symm with h3 | h3
  ·exact h2 h3
  ·omega
 ·rcases hat j hj with h1 | h1
  ·exact h.vb j h1
  ·exact .inr (by omega)
 ·exact(h.bel.grown hg (Nat.le_trans h.s0 (Nat.le_of_lt h.k.lt)) fun g hg'=>(h.nd.lt g hg').1).setCell h.s0 _
 ·rcases hat j hj with h1 | h1
  ·exact h.ap j h1
  ·intro e;have:=(h.tg.row.lt j e).2;omega
theorem Lk.rows{NN nc:Nat}(h0:Held w base sb f s vs (.slice (some ⟨gn,0,none⟩) NN nc) va vw vf cs ce)(h:Lk w base sb gn f s vs va vw vf ce vt ts tc wr vn more mc ve es):SrR wr base sb {s with nodes:=s.nodes++more} vs vn va cs (ce++mc):=by
 have hsz:=h.bel.size;have hM:∀k,kY sb vs vn va k->kY sb vs (.slice (some ⟨gn,0,none⟩) NN nc) va k\/w.heap.size<=k:=fun k hk=>by
  rcases hk with hk | hk | hk | hk
  ·exact .inl (.inl hk)
  ·exact .inl (.inr (.inl hk))
  ·rcases h.vb k hk with h1 | h1
   ·exact .inl (.inr (.inr (.inl (by rw[h1];rfl))))
   ·exact .inr h1
  ·exact .inl (.inr (.inr (.inr hk)))
 have key:∀ {z:Nat} {v:Value} {xs:List (List Value)},RowO z w (kY sb vs (.slice (some ⟨gn,0,none⟩) NN nc) va) v xs->RowO z wr (kY sb vs vn va) v xs:=fun hr=>hr.keep hsz (fun k hk hm=>h.same k hk (fun e=>hm (.inl e)) fun e=>hm (.inr (.inr (.inl (by rw[e];rfl))))) hM;have keep:∀ {e:TypeId} {z n:Nat} {v:Value} {xs:List Value},w.ownsRow base e z v n xs->62≠e->57≠e->wr.ownsRow base e z v n xs:=fun {e z n v xs} hr hs hn=>by
  have h1:=bQ hr h0.k hs;have h2:v.ownBlock≠some gn:=by
   rcases aJ hr h0.r.nd hn.symm with h3 | h3
   ·rw[h3];simp
   ·exact h3
  refine⟨hr.1,?_⟩;rcases hr.2 with hr2 | ⟨g,cap,cur,rfl,g1,g2,r⟩
  ·exact .inl hr2
  ·have hgs:g<w.heap.size:=by
    refine Decidable.byContradiction fun hh=>?_;rw[Array.getElem?_eq_none (by omega)]at g2;exact absurd g2 (by simp)
   exact .inr ⟨g,cap,cur,rfl,g1,(h.same g hgs (fun e=>h1 (by rw[e];rfl)) fun e=>h2 (by rw[e];rfl)).trans g2,r⟩
 refine⟨h0.r.cl,by simp[h0.r.nl,h.ml],by have:=h0.r.bl;simp;omega,keep h0.r.st (by decide) (by decide),h.nd,keep h0.r.ah (by decide) (by decide),fun i x c hx hc=>key (h0.r.vr i x c hx hc),fun i x c hx hc=>?_,fun i x c hx hc=>?_⟩
 ·dsimp only at hx;by_cases hi:i<s.nodes.length
  ·rw[gL hi]at hx;rw[gL (by rw[h0.r.nl];exact hi)]at hc;exact key (h0.r.cr i x c hx hc)
  ·rw[List.getElem?_append_right (by omega)]at hx;rw[List.getElem?_append_right (by have:=h0.r.nl;omega),h0.r.nl]at hc;obtain⟨a,n,c',g1,g2,g3⟩:=h.mx _ x c hx hc;rw[g1];have hr:RowO 4 wr (kY sb vs vn va) (.slice a n c') (x.ctx.map aG):=by
    refine RowO.own (n:=x.ctx.length) (base:=w.heap.size) (e:=101) (fun y hy=>?_) (by rw[lM]) (by unfold aO at g3;rw[<-List.flatMap_def];exact g3) fun k hk hm=>?_
    ·obtain⟨p,_,rfl⟩:=List.mem_map.1 hy;rfl
    ·rcases hm with hm | hm | hm | hm
     ·exact bQ g3 h.k (by decide) (by rw[<-hm];exact hk)
     ·have h1:wr.ownsRow base 65 5 vs _ _:=keep h0.r.st (by decide) (by decide);rcases aJ g3 h1 (by decide)with h2 | h2
      ·rw[h2]at hk;cases hk
      ·exact h2 (hk.trans hm.symm)
     ·rcases aJ g3 h.nd (by decide)with h2 | h2
      ·rw[h2]at hk;cases hk
      ·exact h2 (hk.trans hm.symm)
     ·have h1:wr.ownsRow base 3 1 va _ _:=keep h0.r.ah (by decide) (by decide);rcases aJ g3 h1 (by decide)with h2 | h2
      ·rw[h2]at hk;cases hk
      ·exact h2 (hk.trans hm.symm)
   exact hr.clip
 ·have hi:=(gS hx).1;rw[gL (by have:=h0.r.bl;have:=h0.r.nl;dsimp only at hi;omega)]at hc;exact key (h0.r.er i x c hx hc)
theorem Lk.edgeRow{NN nc:Nat}(h0:Held w base sb f s vs (.slice (some ⟨gn,0,none⟩) NN nc) va vw vf cs ce)(h:Lk w base sb gn f s vs va vw vf ce vt ts tc wr vn more mc ve es):RowO 2 wr (kY sb vs vn va) ve (es.map bT):=by
 have hr:=h.rows h0;refine RowO.own (n:=es.length) (base:=w.heap.size) (e:=111) (fun y hy=>?_) (by rw[lM]) h.eg fun k hk hm=>?_
 ·obtain⟨p,_,rfl⟩:=List.mem_map.1 hy;rfl
 ·rcases hm with hm | hm | hm | hm
  ·exact bQ h.eg h.k (by decide) (by rw[<-hm];exact hk)
  ·rcases aJ h.eg hr.st (by decide)with h2 | h2
   ·rw[h2]at hk;cases hk
   ·exact h2 (hk.trans hm.symm)
  ·rcases aJ h.eg h.nd (by decide)with h2 | h2
   ·rw[h2]at hk;cases hk
   ·exact h2 (hk.trans hm.symm)
  ·rcases aJ h.eg hr.ah (by decide)with h2 | h2
   ·rw[h2]at hk;cases hk
   ·exact h2 (hk.trans hm.symm)
theorem Dj{most:Nat}{nodes:List Nd}{x:Nd}{r:List Nd}{q:Nat}(h:place nodes x=some q):link most nodes (x::r)=(link most nodes r).map fun y=>(y.1,⟨x.name,q⟩::y.2):=by
 rw[link,h]
theorem Im{most:Nat}{nodes:List Nd}{x:Nd}{r:List Nd}(h:place nodes x=none)(hl:nodes.length=most):link most nodes (x::r)=none:=by
 rw[link,h];dsimp only;rw[if_pos hl]
theorem Dk{most:Nat}{nodes:List Nd}{x:Nd}{r:List Nd}(h:place nodes x=none)(hl:¬nodes.length=most):link most nodes (x::r)=(link most (nodes++[x]) r).map fun y=>(y.1,⟨x.name,nodes.length⟩::y.2):=by
 rw[link,h];dsimp only;rw[if_neg hl]
end
end Top
end
end Go.Proofs.YtcohlmdnahdnaaaGreatDoor
