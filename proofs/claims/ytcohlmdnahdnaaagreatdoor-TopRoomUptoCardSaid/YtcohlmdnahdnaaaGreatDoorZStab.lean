/- Rows of elements of several cells, that can be read. No program stands here. -/
import Derived.Deep.Quiet
import Derived.Lib.Builder
import Derived.Sort.LotA
import Derived.Deep.AppendLies
import Derived.OwnWalk
import Derived.WalkLawsBesides
import Derived.Outline
import Derived.Lib.Split
import Derived.Lib.SplitLaws
import Derived.BigQuiet
import Derived.WalkMore
import Derived.Shelf.Strings.SlTrimAscii
import Derived.ScopeJumps
import Derived.Test.YtcohlmdnahdnaaaGreatDoorZAl
namespace Go.Proofs.YtcohlmdnahdnaaaGreatDoor
open Go.RowKit
set_option linter.unusedVariables false
set_option linter.unusedSimpArgs false
set_option maxHeartbeats 16000000
set_option maxRecDepth 100000
structure RowZ(z:Nat)(w:World)(B:Nat)(v:Value)(xs:List (List Value)):Prop where
 is:∃a cap,v=.slice a xs.length cap/\xs.length<=cap/\∀(i:Nat) (x:List Value),xs[i]? =some x->∃bk o,a=some ⟨bk,o,none⟩/\bk<B/\∀(j:Nat) (u:Value),x[j]? =some u->w.cell? ⟨bk,o+i*z+j,none⟩=some u
theorem RowZ.nil(z:Nat)(w:World)(B:Nat):RowZ z w B (.slice none 0 0) []:=⟨_,_,rfl,nL,fun i u h=>by simp at h⟩
theorem RowZ.form{z:Nat}{w:World}{B:Nat}{v:Value}{xs:List (List Value)}(h:RowZ z w B v xs):∃a cap,v=.slice a xs.length cap:=by
 obtain⟨a,cap,rfl,_,_⟩:=h.is;exact⟨a,cap,rfl⟩
theorem RowZ.below{z:Nat}{w w':World}{n B:Nat}{v:Value}{xs:List (List Value)}(h:RowZ z w B v xs)(hb:Below n w w')(hB:B<=n):RowZ z w' B v xs:=by
 obtain⟨a,cap,rfl,hlc,hc⟩:=h.is;refine⟨a,cap,rfl,hlc,fun i x hx=>?_⟩;obtain⟨bk,o,ha,hk,hu⟩:=hc i x hx;exact⟨bk,o,ha,hk,fun j u hj=>by rw[hb.cell (p:=⟨bk,o+i*z+j,none⟩) (Nat.lt_of_lt_of_le hk hB)];exact hu j u hj⟩
theorem RowZ.mono{z:Nat}{w:World}{B B':Nat}{v:Value}{xs:List (List Value)}(h:RowZ z w B v xs)(hB:B<=B'):RowZ z w B' v xs:=by
 obtain⟨a,cap,rfl,hlc,hc⟩:=h.is;refine⟨a,cap,rfl,hlc,fun i x hx=>?_⟩;obtain⟨bk,o,ha,hk,hu⟩:=hc i x hx;exact⟨bk,o,ha,by omega,hu⟩
theorem RowZ.some{z:Nat}{w:World}{B:Nat}{v:Value}{xs:List (List Value)}(h:RowZ z w B v xs)(hn:0<xs.length):∃bk o cap,v=.slice (Option.some ⟨bk,o,none⟩) xs.length cap/\xs.length<=cap/\bk<B/\∀(i:Nat) (x:List Value),xs[i]? =Option.some x->∀(j:Nat) (u:Value),x[j]? =Option.some u->w.cell? ⟨bk,o+i*z+j,none⟩=Option.some u:=by
 obtain⟨a,cap,rfl,hlc,hc⟩:=h.is;obtain⟨bk,o,ha,hk,_⟩:=hc 0 xs[0] (gE hn);subst ha;refine⟨bk,o,cap,rfl,hlc,hk,fun i x hx j u hu=>?_⟩;obtain⟨bk',o',ha',_,h'⟩:=hc i x hx;cases ha';exact h' j u hu
theorem RowZ.of_own{z:Nat}{w:World}{base:Nat}{e:TypeId}{v:Value}{n:Nat}{xs:List (List Value)}(hz:∀x∈xs,x.length=z)(hl:xs.length=n)(h:w.ownsRow base e z v n xs.flatten):RowZ z w w.heap.size v xs:=by
 rcases h.2 with⟨rfl,h0⟩ | ⟨g,cap,cur,rfl,hb,hg,hnc,_⟩
 ·have hx:xs=[]:=List.length_eq_zero_iff.1 (by omega);subst hx;subst h0;exact⟨none,0,rfl,nL,fun i u hu=>by simp at hu⟩
 ·have hgs:g<w.heap.size:=by
   refine Decidable.byContradiction fun hh=>?_;rw[Array.getElem?_eq_none (by omega)]at hg;exact absurd hg (by simp)
  refine⟨_,cap,by rw[hl],by omega,fun i x hx=>⟨g,0,rfl,hgs,fun j u hu=>?_⟩⟩;have hi:i<xs.length:=(gS hx).1;have hxl:=hz x (mG hx);have hj:j<z:=by have:=(gS hu).1;omega
  have key:∀(ys:List (List Value)),(∀y∈ys,y.length=z)->∀(i:Nat),ys[i]? =Option.some x->ys.flatten[i*z+j]? =Option.some u:=by
   intro ys;induction ys with
   | nil=>intro _ i hi;simp at hi
   | cons y r ih=>
    intro hy i hi;have hyl:=hy y List.mem_cons_self;rw[List.flatten_cons];cases i with
    | zero=>
     simp only[gZ,iS]at hi;subst hi;rw[Nat.zero_mul,Nat.zero_add,gL (by omega)];exact hu
    | succ i=>
     rw[List.getElem?_append_right (by rw[Nat.add_mul];omega),show(i+1)*z+j-y.length=i*z+j by rw[Nat.add_mul];omega];exact ih (fun y hy'=>hy y (mC _ hy')) i (by simpa using hi)
  have hk:=key xs hz i hx;have hlt:i*z+j<n*z:=by
   have:(i+1)*z<=n*z:=Nat.mul_le_mul_right z (by omega);rw[Nat.add_mul]at this;omega
  have:=h.cellAt (i*z+j) hlt;rw[hk]at this;rw[show 0+i*z+j=i*z+j by omega];exact this
namespace Top
def wM(v:Ve):Value:=.agg #[.int .i64 v.a,.int .i64 v.b,.int .i64 v.c]
def aU(x:Sp):List Value:=[.int .i64 x.lo.a,.int .i64 x.lo.b,.int .i64 x.lo.c,.int .i64 x.hi.a,.int .i64 x.hi.b,.int .i64 x.hi.c]
def aI(v:Ve):List Value:=[.int .i64 v.a,.int .i64 v.b,.int .i64 v.c]
def aG(p:Pn):List Value:=[sv p.name,.int .i64 p.v.a,.int .i64 p.v.b,.int .i64 p.v.c]
def bT(e:Eg):List Value:=[sv e.label,.int .i64 e.dst]
def iH(w:World)(B:Nat)(v:Value)(l:List Sp):Prop:=RowZ 6 w B v (l.map aU)
def Gb(w:World)(B:Nat)(v:Value)(l:List Ve):Prop:=RowZ 3 w B v (l.map aI)
def bN(w:World)(B:Nat)(v:Value)(l:List Pn):Prop:=RowZ 4 w B v (l.map aG)
def nD(w:World)(B:Nat)(v:Value)(l:List Eg):Prop:=RowZ 2 w B v (l.map bT)
def dJ(d:Dp)(c:Value):List Value:=[sv d.name,c]
structure DpsAt(w:World)(B:Nat)(v:Value)(l:List Dp):Prop where
 is:∃cs:List Value,cs.length=l.length/\RowZ 2 w B v (List.zipWith dJ l cs)/\∀(i:Nat) (x:Dp) (c:Value),l[i]? =some x->cs[i]? =some c->iH w B c x.rg
theorem DpsAt.below{w w':World}{n B:Nat}{v:Value}{l:List Dp}(h:DpsAt w B v l)(hb:Below n w w')(hB:B<=n):DpsAt w' B v l:=by
 obtain⟨cs,h1,h2,h3⟩:=h.is;exact⟨cs,h1,h2.below hb hB,fun i x c hx hc=>RowZ.below (h3 i x c hx hc) hb hB⟩
theorem DpsAt.mono{w:World}{B B':Nat}{v:Value}{l:List Dp}(h:DpsAt w B v l)(hB:B<=B'):DpsAt w B' v l:=by
 obtain⟨cs,h1,h2,h3⟩:=h.is;exact⟨cs,h1,h2.mono hB,fun i x c hx hc=>RowZ.mono (h3 i x c hx hc) hB⟩
theorem DpsAt.nil(w:World)(B:Nat):DpsAt w B (.slice none 0 0) []:=⟨[],rfl,RowZ.nil _ _ _,fun i x c hx _=>by simp at hx⟩
theorem DpsAt.form{w:World}{B:Nat}{v:Value}{l:List Dp}(h:DpsAt w B v l):∃a cap,v=.slice a l.length cap:=by
 obtain⟨cs,h1,h2,h3⟩:=h.is;obtain⟨a,cap,e⟩:=h2.form;refine⟨a,cap,?_⟩;rw[e,List.length_zipWith,h1,Nat.min_self]
theorem DpsAt.at{w:World}{B:Nat}{v:Value}{l:List Dp}(h:DpsAt w B v l)(hn:0<l.length):∃bk o cap,v=.slice (some ⟨bk,o,none⟩) l.length cap/\l.length<=cap/\bk<B/\∀(i:Nat) (x:Dp),l[i]? =some x->∃a c,iH w B (.slice a x.rg.length c) x.rg/\
 w.cell? ⟨bk,o+i*2,none⟩=some (sv x.name)/\w.cell? ⟨bk,o+i*2+1,none⟩=some (.slice a x.rg.length c):=by
 obtain⟨cs,h1,h2,h3⟩:=h.is;have hl:(List.zipWith dJ l cs).length=l.length:=by rw[List.length_zipWith,h1,Nat.min_self]
 obtain⟨bk,o,cap,e,hc,hB,hu⟩:=h2.some (by omega);rw[hl]at e hc;refine⟨bk,o,cap,e,hc,hB,fun i x hx=>?_⟩;have hi:=(gS hx).1;have hcs:cs[i]? =some (cs[i]'(by omega)):=gE (by omega);have hr:=h3 i x _ hx hcs;obtain⟨a,c,e2⟩:=RowZ.form hr;rw[lM]at e2;have hz:(List.zipWith dJ l cs)[i]? =some (dJ x (cs[i]'(by omega))):=by
  rw[List.getElem?_zipWith,hx,hcs]
 have hh:=hu i _ hz;rw[e2]at hr hh;exact⟨a,c,hr,hh 0 _ rfl,hh 1 _ rfl⟩
theorem iH.at{w:World}{B:Nat}{v:Value}{l:List Sp}(h:iH w B v l)(hn:0<l.length):∃bk o cap,v=.slice (some ⟨bk,o,none⟩) l.length cap/\l.length<=cap/\bk<B/\∀(i:Nat) (x:Sp),l[i]? =some x->
 w.cell? ⟨bk,o+i*6,none⟩=some (.int .i64 x.lo.a)/\w.cell? ⟨bk,o+i*6+1,none⟩=some (.int .i64 x.lo.b)/\w.cell? ⟨bk,o+i*6+2,none⟩=some (.int .i64 x.lo.c)/\
 w.cell? ⟨bk,o+i*6+3,none⟩=some (.int .i64 x.hi.a)/\w.cell? ⟨bk,o+i*6+4,none⟩=some (.int .i64 x.hi.b)/\w.cell? ⟨bk,o+i*6+5,none⟩=some (.int .i64 x.hi.c):=by
 have hl:(l.map aU).length=l.length:=lM ..;obtain⟨bk,o,cap,e,hc,hB,hu⟩:=RowZ.some h (by rw[hl];exact hn);rw[hl]at e hc;refine⟨bk,o,cap,e,hc,hB,fun i x hx=>?_⟩;have hh:=hu i (aU x) (by rw[gM,hx];rfl);exact⟨hh 0 _ rfl,hh 1 _ rfl,hh 2 _ rfl,hh 3 _ rfl,hh 4 _ rfl,hh 5 _ rfl⟩
def aP(x:Nd)(ce:Value×Value):List Value:=[sv x.name,.int .i64 x.v.a,.int .i64 x.v.b,.int .i64 x.v.c,ce.1,ce.2]
def jL(x:Wt)(c:Value):List Value:=[sv x.name,.int .i64 x.kind,c]
structure NdsAt(w:World)(B:Nat)(v:Value)(l:List Nd):Prop where
 is:∃cs:List (Value×Value),cs.length=l.length/\RowZ 6 w B v (List.zipWith aP l cs)/\∀(i:Nat) (x:Nd) (c:Value×Value),l[i]? =some x->cs[i]? =some c->bN w B c.1 x.ctx/\nD w B c.2 x.edges
theorem NdsAt.below{w w':World}{n B:Nat}{v:Value}{l:List Nd}(h:NdsAt w B v l)(hb:Below n w w')(hB:B<=n):NdsAt w' B v l:=by
 obtain⟨cs,h1,h2,h3⟩:=h.is;exact⟨cs,h1,h2.below hb hB,fun i x c hx hc=>⟨RowZ.below (h3 i x c hx hc).1 hb hB,RowZ.below (h3 i x c hx hc).2 hb hB⟩⟩
theorem NdsAt.mono{w:World}{B B':Nat}{v:Value}{l:List Nd}(h:NdsAt w B v l)(hB:B<=B'):NdsAt w B' v l:=by
 obtain⟨cs,h1,h2,h3⟩:=h.is;exact⟨cs,h1,h2.mono hB,fun i x c hx hc=>⟨RowZ.mono (h3 i x c hx hc).1 hB,RowZ.mono (h3 i x c hx hc).2 hB⟩⟩
theorem NdsAt.nil(w:World)(B:Nat):NdsAt w B (.slice none 0 0) []:=⟨[],rfl,RowZ.nil _ _ _,fun i x c hx _=>by simp at hx⟩
theorem NdsAt.form{w:World}{B:Nat}{v:Value}{l:List Nd}(h:NdsAt w B v l):∃a cap,v=.slice a l.length cap:=by
 obtain⟨cs,h1,h2,h3⟩:=h.is;obtain⟨a,cap,e⟩:=h2.form;refine⟨a,cap,?_⟩;rw[e,List.length_zipWith,h1,Nat.min_self]
theorem NdsAt.at{w:World}{B:Nat}{v:Value}{l:List Nd}(h:NdsAt w B v l)(hn:0<l.length):∃bk o cap,v=.slice (some ⟨bk,o,none⟩) l.length cap/\l.length<=cap/\bk<B/\∀(i:Nat) (x:Nd),l[i]? =some x->∃a c a' c',bN w B (.slice a x.ctx.length c) x.ctx/\nD w B (.slice a' x.edges.length c') x.edges/\
 w.cell? ⟨bk,o+i*6,none⟩=some (sv x.name)/\w.cell? ⟨bk,o+i*6+1,none⟩=some (.int .i64 x.v.a)/\w.cell? ⟨bk,o+i*6+2,none⟩=some (.int .i64 x.v.b)/\w.cell? ⟨bk,o+i*6+3,none⟩=some (.int .i64 x.v.c)/\
 w.cell? ⟨bk,o+i*6+4,none⟩=some (.slice a x.ctx.length c)/\w.cell? ⟨bk,o+i*6+5,none⟩=some (.slice a' x.edges.length c'):=by
 obtain⟨cs,h1,h2,h3⟩:=h.is;have hl:(List.zipWith aP l cs).length=l.length:=by rw[List.length_zipWith,h1,Nat.min_self]
 obtain⟨bk,o,cap,e,hc,hB,hu⟩:=h2.some (by omega);rw[hl]at e hc;refine⟨bk,o,cap,e,hc,hB,fun i x hx=>?_⟩;have hi:=(gS hx).1;have hcs:cs[i]? =some (cs[i]'(by omega)):=gE (by omega);obtain⟨hr,hr'⟩:=h3 i x _ hx hcs;obtain⟨a,c,e2⟩:=RowZ.form hr;obtain⟨a',c',e3⟩:=RowZ.form hr';rw[lM]at e2 e3;have hz:(List.zipWith aP l cs)[i]? =some (aP x (cs[i]'(by omega))):=by
  rw[List.getElem?_zipWith,hx,hcs]
 have hh:=hu i _ hz;unfold aP at hh;rw[e2]at hr hh;rw[e3]at hr' hh;exact⟨a,c,a',c',hr,hr',hh 0 _ rfl,hh 1 _ rfl,hh 2 _ rfl,hh 3 _ rfl,hh 4 _ rfl,hh 5 _ rfl⟩
structure WtsAt(w:World)(B:Nat)(v:Value)(l:List Wt):Prop where
 is:∃cs:List Value,cs.length=l.length/\RowZ 3 w B v (List.zipWith jL l cs)/\∀(i:Nat) (x:Wt) (c:Value),l[i]? =some x->cs[i]? =some c->iH w B c x.rg
theorem WtsAt.below{w w':World}{n B:Nat}{v:Value}{l:List Wt}(h:WtsAt w B v l)(hb:Below n w w')(hB:B<=n):WtsAt w' B v l:=by
 obtain⟨cs,h1,h2,h3⟩:=h.is;exact⟨cs,h1,h2.below hb hB,fun i x c hx hc=>RowZ.below (h3 i x c hx hc) hb hB⟩
theorem WtsAt.mono{w:World}{B B':Nat}{v:Value}{l:List Wt}(h:WtsAt w B v l)(hB:B<=B'):WtsAt w B' v l:=by
 obtain⟨cs,h1,h2,h3⟩:=h.is;exact⟨cs,h1,h2.mono hB,fun i x c hx hc=>RowZ.mono (h3 i x c hx hc) hB⟩
theorem WtsAt.nil(w:World)(B:Nat):WtsAt w B (.slice none 0 0) []:=⟨[],rfl,RowZ.nil _ _ _,fun i x c hx _=>by simp at hx⟩
theorem WtsAt.form{w:World}{B:Nat}{v:Value}{l:List Wt}(h:WtsAt w B v l):∃a cap,v=.slice a l.length cap:=by
 obtain⟨cs,h1,h2,h3⟩:=h.is;obtain⟨a,cap,e⟩:=h2.form;refine⟨a,cap,?_⟩;rw[e,List.length_zipWith,h1,Nat.min_self]
theorem WtsAt.at{w:World}{B:Nat}{v:Value}{l:List Wt}(h:WtsAt w B v l)(hn:0<l.length):∃bk o cap,v=.slice (some ⟨bk,o,none⟩) l.length cap/\l.length<=cap/\bk<B/\∀(i:Nat) (x:Wt),l[i]? =some x->∃a c,iH w B (.slice a x.rg.length c) x.rg/\
 w.cell? ⟨bk,o+i*3,none⟩=some (sv x.name)/\w.cell? ⟨bk,o+i*3+1,none⟩=some (.int .i64 x.kind)/\w.cell? ⟨bk,o+i*3+2,none⟩=some (.slice a x.rg.length c):=by
 obtain⟨cs,h1,h2,h3⟩:=h.is;have hl:(List.zipWith jL l cs).length=l.length:=by rw[List.length_zipWith,h1,Nat.min_self]
 obtain⟨bk,o,cap,e,hc,hB,hu⟩:=h2.some (by omega);rw[hl]at e hc;refine⟨bk,o,cap,e,hc,hB,fun i x hx=>?_⟩;have hi:=(gS hx).1;have hcs:cs[i]? =some (cs[i]'(by omega)):=gE (by omega);have hr:=h3 i x _ hx hcs;obtain⟨a,c,e2⟩:=RowZ.form hr;rw[lM]at e2;have hz:(List.zipWith jL l cs)[i]? =some (jL x (cs[i]'(by omega))):=by
  rw[List.getElem?_zipWith,hx,hcs]
 have hh:=hu i _ hz;unfold jL at hh;rw[e2]at hr hh;exact⟨a,c,hr,hh 0 _ rfl,hh 1 _ rfl,hh 2 _ rfl⟩
theorem bN.at{w:World}{B:Nat}{v:Value}{l:List Pn}(h:bN w B v l)(hn:0<l.length):∃bk o cap,v=.slice (some ⟨bk,o,none⟩) l.length cap/\l.length<=cap/\bk<B/\∀(i:Nat) (x:Pn),l[i]? =some x->
 w.cell? ⟨bk,o+i*4,none⟩=some (sv x.name)/\w.cell? ⟨bk,o+i*4+1,none⟩=some (.int .i64 x.v.a)/\w.cell? ⟨bk,o+i*4+2,none⟩=some (.int .i64 x.v.b)/\w.cell? ⟨bk,o+i*4+3,none⟩=some (.int .i64 x.v.c):=by
 have hl:(l.map aG).length=l.length:=lM ..;obtain⟨bk,o,cap,e,hc,hB,hu⟩:=RowZ.some h (by rw[hl];exact hn);rw[hl]at e hc;refine⟨bk,o,cap,e,hc,hB,fun i x hx=>?_⟩;have hh:=hu i (aG x) (by rw[gM,hx];rfl);exact⟨hh 0 _ rfl,hh 1 _ rfl,hh 2 _ rfl,hh 3 _ rfl⟩
theorem nD.at{w:World}{B:Nat}{v:Value}{l:List Eg}(h:nD w B v l)(hn:0<l.length):∃bk o cap,v=.slice (some ⟨bk,o,none⟩) l.length cap/\l.length<=cap/\bk<B/\∀(i:Nat) (x:Eg),l[i]? =some x->
 w.cell? ⟨bk,o+i*2,none⟩=some (sv x.label)/\w.cell? ⟨bk,o+i*2+1,none⟩=some (.int .i64 x.dst):=by
 have hl:(l.map bT).length=l.length:=lM ..;obtain⟨bk,o,cap,e,hc,hB,hu⟩:=RowZ.some h (by rw[hl];exact hn);rw[hl]at e hc;refine⟨bk,o,cap,e,hc,hB,fun i x hx=>?_⟩;have hh:=hu i (bT x) (by rw[gM,hx];rfl);exact⟨hh 0 _ rfl,hh 1 _ rfl⟩
theorem Gb.at{w:World}{B:Nat}{v:Value}{l:List Ve}(h:Gb w B v l)(hn:0<l.length):∃bk o cap,v=.slice (some ⟨bk,o,none⟩) l.length cap/\l.length<=cap/\bk<B/\∀(i:Nat) (x:Ve),l[i]? =some x->
 w.cell? ⟨bk,o+i*3,none⟩=some (.int .i64 x.a)/\w.cell? ⟨bk,o+i*3+1,none⟩=some (.int .i64 x.b)/\w.cell? ⟨bk,o+i*3+2,none⟩=some (.int .i64 x.c):=by
 have hl:(l.map aI).length=l.length:=lM ..;obtain⟨bk,o,cap,e,hc,hB,hu⟩:=RowZ.some h (by rw[hl];exact hn);rw[hl]at e hc;refine⟨bk,o,cap,e,hc,hB,fun i x hx=>?_⟩;have hh:=hu i (aI x) (by rw[gM,hx];rfl);exact⟨hh 0 _ rfl,hh 1 _ rfl,hh 2 _ rfl⟩
theorem bN.form{w:World}{B:Nat}{v:Value}{l:List Pn}(h:bN w B v l):∃a cap,v=.slice a l.length cap:=by
 obtain⟨a,c,e⟩:=RowZ.form h;exact⟨a,c,by rw[e,lM]⟩
theorem nD.form{w:World}{B:Nat}{v:Value}{l:List Eg}(h:nD w B v l):∃a cap,v=.slice a l.length cap:=by
 obtain⟨a,c,e⟩:=RowZ.form h;exact⟨a,c,by rw[e,lM]⟩
theorem Gb.form{w:World}{B:Nat}{v:Value}{l:List Ve}(h:Gb w B v l):∃a cap,v=.slice a l.length cap:=by
 obtain⟨a,c,e⟩:=RowZ.form h;exact⟨a,c,by rw[e,lM]⟩
theorem iH.form{w:World}{B:Nat}{v:Value}{l:List Sp}(h:iH w B v l):∃a cap,v=.slice a l.length cap:=by
 obtain⟨a,c,e⟩:=RowZ.form h;exact⟨a,c,by rw[e,lM]⟩
def bI(x:World)(b:Nat):Nat->List Value->World
 | _,[]=>x
 | k,v::r=>bI (x.setCell ⟨b,k,none⟩ v) b (k+1) r
theorem aV(b:Nat):∀(vs:List Value) (x:World) (k:Nat),Below b x (bI x b k vs)
 | [],x,k=>bR _ _
 | v::r,x,k=>((bR b x).setCell nL _).trans (aV b r _ (k+1))
theorem dO(b:Nat):∀(vs:List Value) (x:World) (k j:Nat),j≠b->(bI x b k vs).heap[j]? =x.heap[j]?
 | [],x,k,j,h=>rfl
 | v::r,x,k,j,h=>by
  rw[bI,dO b r _ _ _ h,Below.heap_setCell _ _ _ _ h]
theorem pX(b:Nat):∀(vs:List Value) (x:World) (k c i:Nat),c≠b\/i<k->(bI x b k vs).cell? ⟨c,i,none⟩=x.cell? ⟨c,i,none⟩
 | [],x,k,c,i,h=>rfl
 | v::r,x,k,c,i,h=>by
  rw[bI,pX b r _ _ _ _ (by omega),cP];intro e;injection e with e1 e2
  omega
theorem oC(b:Nat):∀(vs:List Value) (x:World) (k:Nat) (a:Addr),(bI x b k vs).frozen? a=x.frozen? a
 | [],x,k,a=>rfl
 | v::r,x,k,a=>by rw[bI,oC b r,World.frozen?_setCell]
theorem bK(b:Nat):∀(vs:List Value) (x:World) (k:Nat),(∀j,j<vs.length->∃u,x.cell? ⟨b,k+j,none⟩=some u)->∀(j:Nat) (v:Value),vs[j]? =some v->(bI x b k vs).cell? ⟨b,k+j,none⟩=some v
 | [],x,k,h,j,v,hv=>by simp at hv
 | v0::r,x,k,h,0,v,hv=>by
  simp only[gZ,iS]at hv;subst hv;obtain⟨u,hu⟩:=h 0 (by simp);rw[bI,pX b r _ _ _ _ (by omega)];exact World.cell?_setCell_same _ _ _ hu
 | v0::r,x,k,h,j+1,v,hv=>by
  rw[bI];have:=bK b r (x.setCell ⟨b,k,none⟩ v0) (k+1) (fun i hi=>by
   obtain⟨u,hu⟩:=h (i+1) (by simp;omega);refine⟨u,?_⟩;rw[cP,show k+1+i=k+(i+1) by omega]
   ·exact hu
   ·intro e;injection e with e1 e2
    omega) j v (by simpa using hv)
  rw[show k+(j+1)=k+1+j by omega];exact this
theorem aD{w:World}{o:Obj}{a:Addr}(h:a.block<w.heap.size):(w.alloc o).cell? a=w.cell? a:=World.cell?_alloc_old _ _ _ (by omega)
theorem aB{w:World}{xs:Array Value}{t:TypeId}{b i:Nat}{u:Value}(hb:b=w.heap.size)(hu:xs[i]? =some u):(w.alloc (.cells xs t)).cell? ⟨b,i,none⟩=some u:=by
 subst hb;rw[Go.Lib.cell_of_heap (heap_alloc_new w (.cells xs t))];exact hu
structure Pb where
 own:Nat->Nd->List Wt
 cands:List UInt8->List Sp->List Ve
 ctxOf:List Pn->Pn->Option (List Pn)
 inR:List Sp->Ve->Bool
structure Ch where
 node:Nat
 name:List UInt8
 vs:List Ve
 none:Bool
 pos:Nat
 deriving DecidableEq
def Ch.many(x:Ch):Nat:=if x.none then x.vs.length+1 else x.vs.length
def Ch.pick(x:Ch):Option Ve:=x.vs[x.pos]?
def told(l:List Pn)(n:List UInt8):Option Ve:=(l.find? fun p=>p.name==n).map (·.v)
def aK(P:Pb)(k:Nat)(ctx:List Pn)(w:Wt):Ch:=match told ctx w.name with
 | some v=>⟨k,w.name,if P.inR w.rg v then [v]else [],false,0⟩
 | none=>⟨k,w.name,P.cands w.name w.rg,w.kind==2,0⟩
def bD(env:List Pn)(x:Ch):List Pn:=match told env x.name,x.pick with
 | none,some v=>env++[⟨x.name,v⟩]
 | _,_=>env
def fM(ctx:List Pn)(chs:List Ch):List Pn:=fQ (chs.foldl bD ctx)
def targets(P:Pb)(env:List Pn):List Pn->Option (List Nd)
 | []=>some []
 | p::r=>match P.ctxOf env p with
  | some c=>(targets P env r).map fun l=>⟨p.name,p.v,c,[]⟩::l
  | none=>none
def bO(x y:Nd):Bool:=x.name==y.name&&(x.v==y.v&&x.ctx==y.ctx)
def place(nodes:List Nd)(x:Nd):Option Nat:=nodes.findIdx? fun y=>bO x y
def link(most:Nat):List Nd->List Nd->Option (List Nd×List Eg)
 | nodes,[]=>some (nodes,[])
 | nodes,x::r=>match place nodes x with
  | some i=>(link most nodes r).map fun y=>(y.1,⟨x.name,i⟩::y.2)
  | none=>if nodes.length=most then none else(link most (nodes++[x]) r).map fun y=>(y.1,⟨x.name,nodes.length⟩::y.2)
inductive Bnd where
 | bad
 | many
 | ok (nodes:List Nd) (es:List Eg)
def dD(P:Pb)(most:Nat)(ctx:List Pn)(chs:List Ch)(nodes:List Nd):Bnd:=match targets P (fM ctx chs) (fM ctx chs)with
 | none=> .bad
 | some l=>match link most nodes l with
  | none=> .many
  | some y=> .ok y.1 y.2
structure St where
 stack:List Ch
 nodes:List Nd
 ahead:List Nat
 bound:List (List Eg)
def St.k(s:St):Nat:=s.ahead.length
def St.cur(s:St):Nd:=s.nodes[s.k]?.getD nd0
def St.wants(P:Pb)(s:St):List Wt:=P.own s.k s.cur
def St.first(s:St):Nat:=(s.stack.takeWhile fun x=>x.node !=s.k).length
def St.mine(s:St):List Ch:=s.stack.drop s.first
def St.graph(s:St):List Nd:=List.zipWith (fun x es=> {x with edges:=es}) s.nodes s.bound
def St.push(P:Pb)(s:St)(w:Wt):St:= {s with stack:=s.stack++[aK P s.k s.cur.ctx w]}
def St.bind(s:St)(nodes:List Nd)(es:List Eg):St:= {s with nodes:=nodes,ahead:=s.ahead++[s.nodes.length],bound:=s.bound++[es]}
def St.again(s:St)(pre:List Ch)(x:Ch):St:=
 if x.node<s.k then⟨pre++[{x with pos:=x.pos+1}],s.nodes.take (s.ahead[x.node]?.getD 0),s.ahead.take x.node,s.bound.take x.node⟩
 else {s with stack:=pre++[{x with pos:=x.pos+1}]}
inductive Pt where
 | next
 | try'
 | back
inductive Res where
 | ok (g:List Nd) (n:Nat)
 | err (c:Int)
inductive Ends (P:Pb) (lim most:Nat):Pt->St->Nat->Res->Prop where
 | push (s:St) (d:Nat) (r:Res) (w:Wt):(s.wants P)[s.mine.length]? =some w->Ends P lim most .try' (s.push P w) d r->Ends P lim most .next s d r
 | bad (s:St) (d:Nat) (r:Res):(s.wants P).length<=s.mine.length->dD P most s.cur.ctx s.mine s.nodes=.bad->Ends P lim most .back s d r->Ends P lim most .next s d r
 | many (s:St) (d:Nat):(s.wants P).length<=s.mine.length->dD P most s.cur.ctx s.mine s.nodes=.many->Ends P lim most .next s d (.err 32)
 | done (s:St) (d:Nat) (nodes:List Nd) (es:List Eg):(s.wants P).length<=s.mine.length->dD P most s.cur.ctx s.mine s.nodes=.ok nodes es->s.k+1=nodes.length->Ends P lim most .next s d (.ok (s.bind nodes es).graph d)
 | on (s:St) (d:Nat) (r:Res) (nodes:List Nd) (es:List Eg):(s.wants P).length<=s.mine.length->dD P most s.cur.ctx s.mine s.nodes=.ok nodes es->¬s.k+1=nodes.length->Ends P lim most .next (s.bind nodes es) d r->Ends P lim most .next s d r
 | budget (s:St) (pre:List Ch) (x:Ch):s.stack=pre++[x]->x.pos<x.many->Ends P lim most .try' s lim (.err 31)
 | take (s:St) (d:Nat) (r:Res) (pre:List Ch) (x:Ch):s.stack=pre++[x]->x.pos<x.many->¬d=lim->Ends P lim most .next s (d+1) r->Ends P lim most .try' s d r
 | pop (s:St) (d:Nat) (r:Res) (pre:List Ch) (x:Ch):s.stack=pre++[x]->x.many<=x.pos->Ends P lim most .back {s with stack:=pre} d r->Ends P lim most .try' s d r
 | unsat (s:St) (d:Nat):s.stack=[]->Ends P lim most .back s d (.err 30)
 | back (s:St) (d:Nat) (r:Res) (pre:List Ch) (x:Ch):s.stack=pre++[x]->Ends P lim most .try' (s.again pre x) d r->Ends P lim most .back s d r
theorem cK{α:Type}{a b:List α}{x y:α}(h:a++[x]=b++[y]):a=b/\x=y:=by
 have:=List.append_inj' h rfl;exact⟨this.1,by simpa using this.2⟩
theorem pI{a b:List Nd}{e f:List Eg}(h:Bnd.ok a e=Bnd.ok b f):a=b/\e=f:=by
 injection h with h1 h2
 exact⟨h1,h2⟩
theorem Ends.one{P:Pb}{lim most:Nat}{pt:Pt}{s:St}{d:Nat}{r:Res}(h:Ends P lim most pt s d r):∀r',Ends P lim most pt s d r'->r=r':=by
 induction h with
 | push s d r w hw h ih=>
  intro r' h';have hlt:=(gS hw).1;cases h' with
  | push _ _ _ w' hw' h'=>rw[hw]at hw';cases hw';exact ih _ h'
  | bad _ _ _ hl _ _=>omega
  | many _ _ hl _=>omega
  | done _ _ _ _ hl _ _=>omega
  | on _ _ _ _ _ hl _ _ _=>omega
 | bad s d r hl hb h ih=>
  intro r' h';cases h' with
  | push _ _ _ w' hw' _=>have:=(gS hw').1;omega
  | bad _ _ _ _ _ h'=>exact ih _ h'
  | many _ _ _ hb'=>rw[hb]at hb';cases hb'
  | done _ _ _ _ _ hb' _=>rw[hb]at hb';cases hb'
  | on _ _ _ _ _ _ hb' _ _=>rw[hb]at hb';cases hb'
 | many s d hl hb=>
  intro r' h';cases h' with
  | push _ _ _ w' hw' _=>have:=(gS hw').1;omega
  | bad _ _ _ _ hb' _=>rw[hb]at hb';cases hb'
  | many _ _ _ _=>rfl
  | done _ _ _ _ _ hb' _=>rw[hb]at hb';cases hb'
  | on _ _ _ _ _ _ hb' _ _=>rw[hb]at hb';cases hb'
 | done s d nodes es hl hb hk=>
  intro r' h';cases h' with
  | push _ _ _ w' hw' _=>have:=(gS hw').1;omega
  | bad _ _ _ _ hb' _=>rw[hb]at hb';cases hb'
  | many _ _ _ hb'=>rw[hb]at hb';cases hb'
  | done _ _ _ _ _ hb' _=>rw[hb]at hb';obtain⟨rfl,rfl⟩:=pI hb';rfl
  | on _ _ _ _ _ _ hb' hk' _=>rw[hb]at hb';obtain⟨rfl,rfl⟩:=pI hb';exact absurd hk hk'
 | on s d r nodes es hl hb hk h ih=>
  intro r' h';cases h' with
  | push _ _ _ w' hw' _=>have:=(gS hw').1;omega
  | bad _ _ _ _ hb' _=>rw[hb]at hb';cases hb'
  | many _ _ _ hb'=>rw[hb]at hb';cases hb'
  | done _ _ _ _ _ hb' hk'=>rw[hb]at hb';obtain⟨rfl,rfl⟩:=pI hb';exact absurd hk' hk
  | on _ _ _ _ _ _ hb' _ h'=>rw[hb]at hb';obtain⟨rfl,rfl⟩:=pI hb';exact ih _ h'
 | budget s pre x hs hx=>
  intro r' h';cases h' with
  | budget=>rfl
  | take _ _ _ _ _ _ _ hd _=>exact absurd rfl hd
  | pop _ _ _ pre' x' hs' hx' _=>rw[hs]at hs';obtain⟨rfl,rfl⟩:=cK hs';omega
 | take s d r pre x hs hx hd h ih=>
  intro r' h';cases h' with
  | budget=>exact absurd rfl hd
  | take _ _ _ _ _ _ _ _ h'=>exact ih _ h'
  | pop _ _ _ pre' x' hs' hx' _=>rw[hs]at hs';obtain⟨rfl,rfl⟩:=cK hs';omega
 | pop s d r pre x hs hx h ih=>
  intro r' h';cases h' with
  | budget _ pre' x' hs' hx'=>rw[hs]at hs';obtain⟨rfl,rfl⟩:=cK hs';omega
  | take _ _ _ pre' x' hs' hx' _ _=>rw[hs]at hs';obtain⟨rfl,rfl⟩:=cK hs';omega
  | pop _ _ _ pre' x' hs' _ h'=>rw[hs]at hs';obtain⟨rfl,rfl⟩:=cK hs';exact ih _ h'
 | unsat s d hs=>
  intro r' h';cases h' with
  | unsat=>rfl
  | back _ _ _ pre x hs' _=>rw[hs]at hs';exact absurd hs' (by simp)
 | back s d r pre x hs h ih=>
  intro r' h';cases h' with
  | unsat _ _ hs'=>rw[hs]at hs';exact absurd hs' (by simp)
  | back _ _ _ pre' x' hs' h'=>rw[hs]at hs';obtain⟨rfl,rfl⟩:=cK hs';exact ih _ h'
theorem qI{most:Nat}:∀(l nodes:List Nd) (y:List Nd×List Eg),link most nodes l=some y->nodes.length<=y.1.length/\(nodes.length<=most->y.1.length<=most)
 | [],nodes,y,h=>by
  simp only[link,iS]at h;subst h;exact⟨nL,id⟩
 | x::r,nodes,y,h=>by
  unfold link at h;split at h
  ·rename_i i hi
   cases hr:link most nodes r with
   | none=>rw[hr]at h;simp at h
   | some z=>
    rw[hr]at h;simp only[Option.map_some,iS]at h;subst h;exact qI r nodes z hr
  ·split at h
   ·exact absurd h (by simp)
   ·rename_i hne
    cases hr:link most (nodes++[x]) r with
    | none=>rw[hr]at h;simp at h
    | some z=>
     rw[hr]at h;simp only[Option.map_some,iS]at h;subst h;have:=qI r (nodes++[x]) z hr;simp only[lA,List.length_singleton]at this;exact⟨by show _<=z.1.length;omega,fun hm=>this.2 (by omega)⟩
theorem rQ{most more:Nat}(hm:most<=more):∀(l nodes:List Nd) (y:List Nd×List Eg),nodes.length<=most->link most nodes l=some y->link more nodes l=some y
 | [],nodes,y,_,h=>h
 | x::r,nodes,y,hn,h=>by
  unfold link at h |-;split at h
  ·rename_i i hi
   cases hr:link most nodes r with
   | none=>rw[hr]at h;simp at h
   | some z=>
    rw[hr]at h;rw[rQ hm r nodes z hn hr];exact h
  ·rename_i hi
   split at h
   ·exact absurd h (by simp)
   ·rename_i hne
    cases hr:link most (nodes++[x]) r with
    | none=>rw[hr]at h;simp at h
    | some z=>
     rw[hr]at h;rw[if_neg (by omega),rQ hm r (nodes++[x]) z (by simp;omega) hr];exact h
theorem rY{P:Pb}{most more:Nat}(hm:most<=more){ctx:List Pn}{chs:List Ch}{nodes:List Nd}(hn:nodes.length<=most)(h:dD P most ctx chs nodes≠.many):dD P more ctx chs nodes=dD P most ctx chs nodes:=by
 unfold dD at h |-;split
 ·rfl
 ·rename_i l hl
  rw[hl]at h;dsimp only at h;cases hk:link most nodes l with
  | none=>rw[hk]at h;exact absurd rfl h
  | some y=>rw[rQ hm l nodes y hn hk]
theorem mY{P:Pb}{most:Nat}{ctx:List Pn}{chs:List Ch}{nodes nodes':List Nd}{es:List Eg}(h:dD P most ctx chs nodes=.ok nodes' es):nodes.length<=nodes'.length/\(nodes.length<=most->nodes'.length<=most):=by
 unfold dD at h;split at h
 ·cases h
 ·split at h
  ·cases h
  ·rename_i y hy
   obtain⟨rfl,rfl⟩:=pI h;exact qI _ _ _ hy
theorem Kh{s:St}{pre:List Ch}{x:Ch}{most:Nat}(h:s.nodes.length<=most):(s.again pre x).nodes.length<=most:=by
 unfold St.again;split
 ·simp only[List.length_take];omega
 ·exact h
theorem Ends.more{P:Pb}{lim most lim' most':Nat}(hl:lim<=lim')(hm:most<=most'){pt:Pt}{s:St}{d:Nat}{r:Res}(h:Ends P lim most pt s d r)(h31:r≠.err 31)(h32:r≠.err 32):d<=lim->s.nodes.length<=most->Ends P lim' most' pt s d r:=by
 induction h with
 | push s d r w hw h ih=>intro hd hn;exact .push s d r w hw (ih h31 h32 hd hn)
 | bad s d r hw hb h ih=>intro hd hn;exact .bad s d r hw (by rw[rY hm hn (by rw[hb];intro e;cases e)];exact hb) (ih h31 h32 hd hn)
 | many s d hw hb=>exact absurd rfl h32
 | done s d nodes es hw hb hk=>intro hd hn;exact .done s d nodes es hw (by rw[rY hm hn (by rw[hb];intro e;cases e)];exact hb) hk
 | on s d r nodes es hw hb hk h ih=>intro hd hn;exact .on s d r nodes es hw (by rw[rY hm hn (by rw[hb];intro e;cases e)];exact hb) hk (ih h31 h32 hd ((mY hb).2 hn))
 | budget s pre x hs hx=>exact absurd rfl h31
 | take s d r pre x hs hx hne h ih=>intro hd hn;exact .take s d r pre x hs hx (by omega) (ih h31 h32 (by omega) hn)
 | pop s d r pre x hs hx h ih=>intro hd hn;exact .pop s d r pre x hs hx (ih h31 h32 hd hn)
 | unsat s d hs=>intro _ _;exact .unsat s d hs
 | back s d r pre x hs h ih=>intro hd hn;exact .back s d r pre x hs (ih h31 h32 hd (Kh hn))
theorem Ends.few{P:Pb}{lim most:Nat}{pt:Pt}{s:St}{d:Nat}{r:Res}(h:Ends P lim most pt s d r):d<=lim->∀g n,r=.ok g n->n<=lim:=by
 induction h with
 | push s d r w hw h ih=>exact ih
 | bad s d r hw hb h ih=>exact ih
 | many s d hw hb=>intro _ g n e;cases e
 | done s d nodes es hw hb hk=>intro hd g n e;cases e;exact hd
 | on s d r nodes es hw hb hk h ih=>exact ih
 | budget s pre x hs hx=>intro _ g n e;cases e
 | take s d r pre x hs hx hne h ih=>intro hd;exact ih (by omega)
 | pop s d r pre x hs hx h ih=>exact ih
 | unsat s d hs=>intro _ g n e;cases e
 | back s d r pre x hs h ih=>exact ih
end Top
section
namespace Top
theorem rZ{a b c:List UInt8}(h1:bytesBefore a b=true)(h2:bytesBefore b c=true):bytesBefore a c=true:=WideShapes.bytes_trans a b c h1 h2
theorem Od{a b:List UInt8}(h:bytesBefore a b=true):a≠b:=fun e=>by rw[e,WideAt.bytes_irrefl]at h;exact absurd h (by simp)
theorem Ka{a b:List UInt8}(h:bytesBefore a b=true):bytesBefore b a=false:=by
 cases h2:bytesBefore b a
 ·rfl
 ·have:=rZ h h2;rw[WideAt.bytes_irrefl]at this;exact absurd this (by simp)
theorem Oc{a b:List UInt8}(h:a≠b)(h2:bytesBefore a b=false):bytesBefore b a=true:=by
 rcases WideAt.bytes_total a b h with h | h
 ·rw[h]at h2;exact absurd h2 (by simp)
 ·exact h
def bM{α:Type}(f:α->List UInt8)(l:List α):Prop:=l.Pairwise fun x y=>bytesBefore (f x) (f y)=true
section
variable{α:Type}(f:α->List UInt8)
theorem qK(x:α):∀l:List α,(qN f x l).Perm (x::l)
 | []=>List.Perm.refl _
 | y::r=>by
  unfold qN;split
  ·exact List.Perm.refl _
  ·exact((qK x r).cons y).trans (List.Perm.swap x y r)
theorem lW:∀(l a:List α),(l.foldl (fun a x=>qN f x a) a).Perm (l++a)
 | [],a=>List.Perm.refl _
 | x::r,a=>by
  rw[List.foldl_cons];refine(lW r _).trans ?_;refine((qK f x a).append_left r).trans ?_;exact List.perm_middle
theorem bW(l:List α):(yR f l).Perm l:=by
 have:=lW f l [];rwa[List.append_nil]at this
theorem xR{x:α}:∀ {l:List α},bM f l->(∀y∈l,f y≠f x)->bM f (qN f x l)
 | [],_,_=>List.pairwise_singleton _ _
 | y::r,h,hx=>by
  obtain⟨h1,h2⟩:=List.pairwise_cons.1 h;unfold qN;split
  ·rename_i hb
   refine List.pairwise_cons.2 ⟨fun z hz=>?_,h⟩;rcases List.mem_cons.1 hz with rfl | hz
   ·exact hb
   ·exact rZ hb (h1 z hz)
  ·rename_i hb
   refine List.pairwise_cons.2 ⟨fun z hz=>?_,xR h2 fun z hz=>hx z (mC _ hz)⟩;rcases List.mem_cons.1 ((qK f x r).mem_iff.1 hz)with rfl | hz
   ·exact Oc (fun e=>hx y List.mem_cons_self e.symm) (by simpa using hb)
   ·exact h1 z hz
theorem lF:∀(l a:List α),((l++a).map f).Nodup->bM f a->bM f (l.foldl (fun a x=>qN f x a) a)
 | [],a,_,h=>h
 | x::r,a,hn,h=>by
  rw[List.foldl_cons];have hp:((x::r)++a).Perm (r++qN f x a):=((List.perm_middle (a:=x) (l₁:=r) (l₂:=a)).symm).trans ((qK f x a).symm.append_left r);refine lF r _ ((hp.map f).nodup_iff.1 hn) (xR f h fun y hy e=>?_);rw[List.cons_append,List.map_cons,List.nodup_cons]at hn;exact hn.1 (List.mem_map.2 ⟨y,List.mem_append_right _ hy,e⟩)
theorem fB{l:List α}(h:(l.map f).Nodup):bM f (yR f l):=
 lF f l [] (by rwa[List.append_nil]) List.Pairwise.nil
theorem aX{l:List α}(h:bM f l):(l.map f).Nodup:=by
 unfold List.Nodup;rw[List.pairwise_map];exact h.imp fun hb=>Od hb
end
theorem fH{α β:Type}{f:α->β}:∀ {l:List α},(l.map f).Nodup->∀ {x y:α},x∈l->y∈l->f x=f y->x=y
 | [],_,x,y,hx,_,_=>absurd hx (by simp)
 | a::r,h,x,y,hx,hy,e=>by
  rw[List.map_cons,List.nodup_cons]at h;rcases List.mem_cons.1 hx with h1 | h1
  ·rcases List.mem_cons.1 hy with h2 | h2
   ·rw[h1,h2]
   ·exact absurd (List.mem_map.2 ⟨y,h2,by rw[<-h1];exact e.symm⟩) h.1
  ·rcases List.mem_cons.1 hy with h2 | h2
   ·exact absurd (List.mem_map.2 ⟨x,h1,by rw[<-h2];exact e⟩) h.1
   ·exact fH h.2 h1 h2 e
theorem eP{l:List Pn}{n:List UInt8}{v:Ve}(h:told l n=some v):∃p∈l,p.name=n/\p.v=v:=by
 unfold told at h;cases hf:l.find? (fun p=>p.name==n)with
 | none=>rw[hf]at h;simp at h
 | some p=>
  rw[hf]at h;simp only[Option.map_some,iS]at h;exact⟨p,List.mem_of_find?_eq_some hf,by simpa using List.find?_some hf,h⟩
theorem told_none{l:List Pn}{n:List UInt8}(h:told l n=none):∀p∈l,p.name≠n:=by
 unfold told at h;simp only[Option.map_eq_none_iff,List.find?_eq_none]at h;exact fun p hp e=>h p hp (by simpa using e)
theorem qU{env:List Pn}{x:Ch}{p:Pn}(h:p∈bD env x):p∈env\/(told env x.name=none/\x.pick=some p.v/\p.name=x.name):=by
 unfold bD at h;split at h
 ·rename_i v h1 h2
  rcases List.mem_append.1 h with h | h
  ·exact Or.inl h
  ·simp only[mI]at h;subst h;exact Or.inr ⟨h1,h2,rfl⟩
 ·exact Or.inl h
theorem qR{env:List Pn}{x:Ch}{p:Pn}(h:p∈env):p∈bD env x:=by
 unfold bD;split
 ·exact List.mem_append_left _ h
 ·exact h
theorem vJ{env:List Pn}{x:Ch}(h:(env.map (·.name)).Nodup):((bD env x).map (·.name)).Nodup:=by
 unfold bD;split
 ·rename_i v h1 h2
  rw[List.map_append,List.nodup_append];refine⟨h,by simp,fun a ha b hb e=>?_⟩;obtain⟨p,hp,rfl⟩:=List.mem_map.1 ha;simp only[List.map_cons,List.map_nil,mI]at hb;exact told_none h1 p hp (by rw[e,hb])
 ·exact h
theorem dR:∀(chs:List Ch) (env:List Pn) (p:Pn),p∈env->p∈chs.foldl bD env
 | [],env,p,h=>h
 | x::r,env,p,h=>dR r _ p (qR h)
theorem fV:∀(chs:List Ch) (env:List Pn),(env.map (·.name)).Nodup->((chs.foldl bD env).map (·.name)).Nodup
 | [],env,h=>h
 | x::r,env,h=>fV r _ (vJ h)
theorem eY:∀(chs:List Ch) (env:List Pn) (p:Pn),p∈chs.foldl bD env->p∈env\/∃x∈chs,x.name=p.name/\x.pick=some p.v/\told env x.name=none
 | [],env,p,h=>Or.inl h
 | x::r,env,p,h=>by
  rw[List.foldl_cons]at h;rcases eY r _ p h with h | ⟨y,hy,h1,h2,h3⟩
  ·rcases qU h with h | ⟨h1,h2,h3⟩
   ·exact Or.inl h
   ·exact Or.inr ⟨x,List.mem_cons_self,h3.symm,h2,h1⟩
  ·refine Or.inr ⟨y,mC _ hy,h1,h2,?_⟩;cases ht:told env y.name with
   | none=>rfl
   | some v=>
    obtain⟨q,hq,hqn,_⟩:=eP ht;exact absurd hqn (told_none h3 q (qR hq))
theorem iO:∀(chs:List Ch) (env:List Pn),(chs.map (·.name)).Nodup->∀x∈chs,∀v,x.pick=some v->told env x.name=none->(⟨x.name,v⟩:Pn)∈chs.foldl bD env
 | [],env,_,x,hx,_,_,_=>absurd hx (by simp)
 | y::r,env,hn,x,hx,v,hv,ht=>by
  rw[List.map_cons,List.nodup_cons]at hn;rw[List.foldl_cons];rcases List.mem_cons.1 hx with rfl | hx
  ·refine dR r _ _ ?_;unfold bD;rw[ht,hv];exact List.mem_append_right _ (by simp)
  ·refine iO r _ hn.2 x hx v hv ?_;cases hc:told (bD env y) x.name with
   | none=>rfl
   | some u=>
    obtain⟨q,hq,hqn,_⟩:=eP hc;rcases qU hq with hq | ⟨_,_,h3⟩
    ·exact absurd hqn (told_none ht q hq)
    ·exact absurd (List.mem_map.2 ⟨x,hx,by rw[<-hqn,h3]⟩) hn.1
theorem nX{ctx:List Pn}{chs:List Ch}{p:Pn}:p∈fM ctx chs↔p∈chs.foldl bD ctx:=(bW _ _).mem_iff
theorem xU{ctx:List Pn}{chs:List Ch}(h:(ctx.map (·.name)).Nodup):bM (·.name) (fM ctx chs):=fB _ (fV chs ctx h)
theorem iL{P:Pb}{env:List Pn}:∀ {l:List Pn} {ts:List Nd},targets P env l=some ts->ts.length=l.length/\∀(t:Nat) (p:Pn),l[t]? =some p->∃c,ts[t]? =some (⟨p.name,p.v,c,[]⟩:Nd)/\P.ctxOf env p=some c
 | [],ts,h=>by
  simp only[targets,iS]at h;subst h;exact⟨rfl,fun t p hp=>by simp at hp⟩
 | q::r,ts,h=>by
  unfold targets at h;split at h
  ·rename_i c hc
   cases hr:targets P env r with
   | none=>rw[hr]at h;simp at h
   | some us=>
    rw[hr]at h;simp only[Option.map_some,iS]at h;subst h;obtain⟨h1,h2⟩:=iL hr;refine⟨by simp[h1],fun t p hp=>?_⟩;cases t with
    | zero=>
     simp only[gZ,iS]at hp;subst hp;exact⟨c,rfl,hc⟩
    | succ t=>exact h2 t p (by simpa using hp)
  ·exact absurd h (by simp)
theorem same_iff{x y:Nd}:bO x y=true↔x.name=y.name/\x.v=y.v/\x.ctx=y.ctx:=by
 unfold bO;simp
theorem Cv{nodes:List Nd}{x:Nd}{i:Nat}(h:place nodes x=some i):∃y,nodes[i]? =some y/\bO x y=true:=by
 unfold place at h;rw[List.findIdx?_eq_some_iff_getElem]at h;obtain⟨hi,h1,_⟩:=h;exact⟨_,gE hi,h1⟩
theorem Cw{nodes:List Nd}{x:Nd}(h:place nodes x=none):∀y∈nodes,bO x y=false:=by
 unfold place at h;rw[List.findIdx?_eq_none_iff]at h;exact h
def Oo(nodes:List Nd):Prop:=nodes.Pairwise fun x y=>bO x y=false
theorem nT{most:Nat}:∀(l nodes:List Nd) (y:List Nd×List Eg),(∀x∈l,x.edges=[])->link most nodes l=some y->Oo nodes->∃more,y.1=nodes++more/\Oo y.1/\(∀x∈more,x∈l)/\y.2.length=l.length/\
 (∀(t:Nat) (x:Nd),l[t]? =some x->∃(j:Nat) (z:Nd),y.2[t]? =some (⟨x.name,j⟩:Eg)/\y.1[j]? =some z/\bO x z=true)/\
 ∀j,nodes.length<=j->j<y.1.length->∃e∈y.2,e.dst=(j:Int)
 | [],nodes,y,_,h,hd=>by
  simp only[link,iS]at h;subst h;exact⟨[],by simp,hd,by simp,rfl,fun t x hx=>by simp at hx,fun j h1 h2=>absurd h2 (by dsimp only;omega)⟩
 | x::r,nodes,y,he,h,hd=>by
  unfold link at h;split at h
  ·rename_i i hi
   cases hr:link most nodes r with
   | none=>rw[hr]at h;simp at h
   | some z=>
    rw[hr]at h;simp only[Option.map_some,iS]at h;subst h;obtain⟨more,h1,h2,h3,h4,h5,h6⟩:=nT r nodes z (fun u hu=>he u (mC _ hu)) hr hd;refine⟨more,h1,h2,fun u hu=>mC _ (h3 u hu),by simp[h4],fun t u hu=>?_,fun j a b=>?_⟩
    ·cases t with
     | zero=>
      simp only[gZ,iS]at hu;subst hu;obtain⟨w,hw1,hw2⟩:=Cv hi;refine⟨i,w,rfl,?_,hw2⟩;show z.1[i]? =_;rw[h1,gL (gS hw1).1];exact hw1
     | succ t=>exact h5 t u (by simpa using hu)
    ·obtain⟨e,h7,h8⟩:=h6 j a b;exact⟨e,mC _ h7,h8⟩
  ·rename_i hi
   split at h
   ·exact absurd h (by simp)
   ·cases hr:link most (nodes++[x]) r with
    | none=>rw[hr]at h;simp at h
    | some z=>
     rw[hr]at h;simp only[Option.map_some,iS]at h;subst h;have hd2:Oo (nodes++[x]):=by
      unfold Oo;rw[List.pairwise_append];refine⟨hd,List.pairwise_singleton _ _,fun u hu v hv=>?_⟩;simp only[mI]at hv;subst hv;have:=Cw hi u hu;cases hs:bO u v
      ·rfl
      ·rw[same_iff]at hs;rw[same_iff.2 ⟨hs.1.symm,hs.2.1.symm,hs.2.2.symm⟩]at this;exact absurd this (by simp)
     obtain⟨more,h1,h2,h3,h4,h5,h6⟩:=nT r (nodes++[x]) z (fun u hu=>he u (mC _ hu)) hr hd2;have hz:z.1[nodes.length]? =some x:=by
      rw[h1,List.append_assoc,List.getElem?_append_right nL,Nat.sub_self];rfl
     refine⟨x::more,by show z.1=_;rw[h1,List.append_assoc];rfl,h2,fun u hu=>?_,by simp[h4],fun t u hu=>?_,fun j a b=>?_⟩
     ·rcases List.mem_cons.1 hu with rfl | hu
      ·exact List.mem_cons_self
      ·exact mC _ (h3 u hu)
     ·cases t with
      | zero=>
       simp only[gZ,iS]at hu;subst hu;exact⟨nodes.length,x,rfl,hz,by rw[same_iff];exact⟨rfl,rfl,rfl⟩⟩
      | succ t=>exact h5 t u (by simpa using hu)
     ·by_cases hj:j=nodes.length
      ·subst hj;exact⟨_,List.mem_cons_self,rfl⟩
      ·obtain⟨e,h7,h8⟩:=h6 j (by simp;omega) b;exact⟨e,mC _ h7,h8⟩
end Top
end
section
namespace Stab
open Go.Sort
variable{α:Type}[Inhabited α]
def bC(a b n i:Nat)(d:Array α):Array α:=if i<n then bC a b n (i+1) (swp d (a+i) (b+i))else d
termination_by n-i
def jZ(m i j:Nat)(d:Array α):Array α:=
 if i=0\/j=0 then d
 else if i=j then bC (m-i) m i 0 d
 else if j<i then jZ m (i-j) j (bC (m-i) m j 0 d)else jZ m i (j-i) (bC (m-i) (m+j-i) i 0 d)
termination_by i+j
def half(c:Nat->Bool)(i j:Nat):Nat:=if i<j then(if c ((i+j)/2)=true then half c ((i+j)/2+1) j else half c i ((i+j)/2))else i
termination_by j-i
def upTo(i k:Nat)(d:Array α):Array α:=if k+1<i then upTo i (k+1) (swp d k (k+1))else d
termination_by i-k
def dC(i k:Nat)(d:Array α):Array α:=if i<k then dC i (k-1) (swp d k (k-1))else d
termination_by k-i
variable(lt:α->α->Bool)
def start(d:Array α)(a m b:Nat):Nat:=
 if(a+b)/2<m then half (fun c=>!lt d[(a+b)/2+m-1-c]! d[c]!) ((a+b)/2+m-b) ((a+b)/2)else half (fun c=>!lt d[(a+b)/2+m-1-c]! d[c]!) a m
def dP:Nat->Nat->Nat->Nat->Array α->Array α
 | 0,_,_,_,d=>d
 | f+1,a,m,b,d=>
  if m=a+1 then upTo (half (fun h=>lt d[h]! d[a]!) m b) a d
  else if b=m+1 then dC (half (fun h=>!lt d[m]! d[h]!) a m) m d
  else
   let s:=start lt d a m b
   let e:=(a+b)/2+m-s
   let d1:=if s<m/\m<e then jZ m (m-s) (e-m) d else d
   let d2:=if a<s/\s<(a+b)/2 then dP f a s ((a+b)/2) d1 else d1
   if(a+b)/2<e/\e<b then dP f ((a+b)/2) e b d2 else d2
def blocks(n a:Nat)(d:Array α):Array α:=if a+20<=n then blocks n (a+20) (insertionSort lt d a (a+20))else insertionSort lt d a n
termination_by n-a
def merges(z n a:Nat)(d:Array α):Array α:=
 if h:0<z/\a+2*z<=n then merges z n (a+2*z) (dP lt (2*z) a (a+z) (a+2*z) d)else if a+z<n then dP lt (n-a) a (a+z) n d else d
termination_by n-a
def levels(n z:Nat)(d:Array α):Array α:=if 0<z/\z<n then levels n (2*z) (merges lt z n 0 d)else d
termination_by n-z
def sort(d:Array α):Array α:=levels lt d.size 20 (blocks lt d.size 0 d)
/-! It changes places, and nothing else. -/
def Same(d d':Array α):Prop:=d'.size=d.size/\d'.toList.Perm d.toList
omit [Inhabited α] in
theorem Same.refl(d:Array α):Same d d:=⟨rfl,List.Perm.refl _⟩
omit [Inhabited α] in
theorem Same.trans{d d' d'':Array α}(h:Same d d')(h':Same d' d''):Same d d'':=⟨h'.1.trans h.1,h'.2.trans h.2⟩
theorem Same.swp{d d':Array α}(h:Same d d'){i j:Nat}(hi:i<d'.size)(hj:j<d'.size):Same d (Sort.swp d' i j):=by
 refine h.trans ⟨size_swp _ _ _,?_⟩;have:=swp_permIn d' 0 d'.size i j (Nat.zero_le _) hi (Nat.zero_le _) hj nL;have h2:=this.2.2;rw[Array.extract_eq_self_of_le (by rw[size_swp];exact nL),Array.extract_eq_self_of_le nL]at h2;exact h2
theorem dY(a b n:Nat):∀(k i:Nat) (d:Array α),n-i=k->a+n<=d.size->b+n<=d.size->Same d (bC a b n i d)
 | 0,i,d,hk,_,_=>by
  rw[bC,if_neg (by omega)];exact Same.refl d
 | k+1,i,d,hk,ha,hb=>by
  rw[bC,if_pos (by omega)];exact((Same.refl d).swp (by omega) (by omega)).trans (dY a b n k (i+1) _ (by omega) (by rw[size_swp];exact ha) (by rw[size_swp];exact hb))
theorem lZ(m:Nat):∀(k i j:Nat) (d:Array α),i+j<=k->i<=m->m+j<=d.size->Same d (jZ m i j d)
 | 0,i,j,d,hk,hi,hj=>by
  rw[jZ,if_pos (by omega)];exact Same.refl d
 | k+1,i,j,d,hk,hi,hj=>by
  rw[jZ];split
  ·exact Same.refl d
  ·split
   ·exact dY _ _ _ _ _ d rfl (by omega) (by omega)
   ·split
    ·have h1:=dY (m-i) m j _ 0 d rfl (by omega) (by omega);exact h1.trans (lZ m k (i-j) j _ (by omega) (by omega) (by rw[h1.1];exact hj))
    ·have h1:=dY (m-i) (m+j-i) i _ 0 d rfl (by omega) (by omega);exact h1.trans (lZ m k i (j-i) _ (by omega) (by omega) (by rw[h1.1];omega))
theorem qP(c:Nat->Bool):∀(k i j:Nat),j-i<=k->i<=j->i<=half c i j/\half c i j<=j
 | 0,i,j,hk,hij=>by
  rw[half,if_neg (by omega)];omega
 | k+1,i,j,hk,hij=>by
  rw[half];split
  ·split
   ·have:=qP c k ((i+j)/2+1) j (by omega) (by omega);omega
   ·have:=qP c k i ((i+j)/2) (by omega) (by omega);omega
  ·omega
theorem wZ:∀(n i k:Nat) (d:Array α),i-k<=n->i<=d.size->Same d (upTo i k d)
 | 0,i,k,d,hn,hi=>by
  rw[upTo,if_neg (by omega)];exact Same.refl d
 | n+1,i,k,d,hn,hi=>by
  rw[upTo];split
  ·exact((Same.refl d).swp (by omega) (by omega)).trans (wZ n i (k+1) _ (by omega) (by rw[size_swp];exact hi))
  ·exact Same.refl d
theorem tJ:∀(n i k:Nat) (d:Array α),k-i<=n->k<d.size->Same d (dC i k d)
 | 0,i,k,d,hn,hi=>by
  rw[dC,if_neg (by omega)];exact Same.refl d
 | n+1,i,k,d,hn,hi=>by
  rw[dC];split
  ·exact((Same.refl d).swp (by omega) (by omega)).trans (tJ n i (k-1) _ (by omega) (by rw[size_swp];omega))
  ·exact Same.refl d
theorem uO(lt:α->α->Bool){d:Array α}{a m b:Nat}(h1:a<m)(h2:m<b):a<=start lt d a m b/\start lt d a m b<=(a+b)/2/\start lt d a m b<=m/\m<=(a+b)/2+m-start lt d a m b/\(a+b)/2<=(a+b)/2+m-start lt d a m b/\(a+b)/2+m-start lt d a m b<=b:=by
 unfold start;split
 ·have:=qP (fun c=>!lt d[(a+b)/2+m-1-c]! d[c]!) _ ((a+b)/2+m-b) ((a+b)/2) nL (by omega);omega
 ·have:=qP (fun c=>!lt d[(a+b)/2+m-1-c]! d[c]!) _ a m nL (by omega);omega
theorem fE(lt:α->α->Bool):∀(f a m b:Nat) (d:Array α),a<m->m<b->b<=d.size->Same d (dP lt f a m b d)
 | 0,a,m,b,d,h1,h2,h3=>Same.refl d
 | f+1,a,m,b,d,h1,h2,h3=>by
  rw[dP];split
  ·have:=qP (fun h=>lt d[h]! d[a]!) _ m b nL (by omega);exact wZ _ _ _ d nL (by omega)
  ·split
   ·exact tJ _ _ _ d nL (by omega)
   ·obtain⟨s1,s2,s3,s4,s5,s6⟩:=uO lt (d:=d) h1 h2;generalize start lt d a m b=s at s1 s2 s3 s4 s5 s6 |-;dsimp only;generalize he:(a+b)/2+m-s=e at s4 s5 s6 |-;have k1:Same d (if s<m/\m<e then jZ m (m-s) (e-m) d else d):=by
     split
     ·exact lZ m _ _ _ d nL (by omega) (by omega)
     ·exact Same.refl d
    generalize (if s<m/\m<e then jZ m (m-s) (e-m) d else d)=d1 at k1 |-;have k2:Same d (if a<s/\s<(a+b)/2 then dP lt f a s ((a+b)/2) d1 else d1):=by
     split
     ·rename_i hc
      exact k1.trans (fE lt f a s _ d1 hc.1 hc.2 (by rw[k1.1];omega))
     ·exact k1
    generalize (if a<s/\s<(a+b)/2 then dP lt f a s ((a+b)/2) d1 else d1)=d2 at k2 |-;split
    ·rename_i hc
     exact k2.trans (fE lt f _ e b d2 hc.1 hc.2 (by rw[k2.1];omega))
    ·exact k2
theorem oF(lt:α->α->Bool)(a:Nat):∀(j:Nat) (d:Array α),j<d.size->Same d (insInner lt a j d)
 | 0,d,_=>Same.refl d
 | j+1,d,h=>by
  rw[insInner];split
  ·exact((Same.refl d).swp (by omega) (by omega)).trans (oF lt a j _ (by rw[size_swp];omega))
  ·exact Same.refl d
theorem oD(lt:α->α->Bool)(a b:Nat):∀(n i:Nat) (d:Array α),b-i<=n->b<=d.size->Same d (insOuter lt a b i d)
 | 0,i,d,hn,hb=>by
  rw[insOuter,if_neg (by omega)];exact Same.refl d
 | n+1,i,d,hn,hb=>by
  rw[insOuter];split
  ·have h1:=oF lt a i d (by omega);exact h1.trans (oD lt a b n (i+1) _ (by omega) (by rw[h1.1];exact hb))
  ·exact Same.refl d
theorem jI(lt:α->α->Bool)(a b:Nat)(d:Array α)(hb:b<=d.size):Same d (insertionSort lt d a b):=oD lt a b _ _ d nL hb
theorem jU(lt:α->α->Bool)(n:Nat):∀(k a:Nat) (d:Array α),n-a<=k->n<=d.size->Same d (blocks lt n a d)
 | 0,a,d,hk,hn=>by
  rw[blocks,if_neg (by omega)];exact jI lt _ _ d hn
 | k+1,a,d,hk,hn=>by
  rw[blocks];split
  ·have h1:=jI lt a (a+20) d (by omega);exact h1.trans (jU lt n k (a+20) _ (by omega) (by rw[h1.1];exact hn))
  ·exact jI lt _ _ d hn
theorem jQ(lt:α->α->Bool)(z n:Nat)(hz:0<z):∀(k a:Nat) (d:Array α),n-a<=k->n<=d.size->Same d (merges lt z n a d)
 | 0,a,d,hk,hn=>by
  rw[merges,dif_neg (by omega),if_neg (by omega)];exact Same.refl d
 | k+1,a,d,hk,hn=>by
  rw[merges];split
  ·have h1:=fE lt (2*z) a (a+z) (a+2*z) d (by omega) (by omega) (by omega);exact h1.trans (jQ lt z n hz k _ _ (by omega) (by rw[h1.1];exact hn))
  ·split
   ·exact fE lt _ _ _ _ d (by omega) (by omega) hn
   ·exact Same.refl d
theorem sU(lt:α->α->Bool)(n:Nat):∀(k z:Nat) (d:Array α),n-z<=k->n<=d.size->Same d (levels lt n z d)
 | 0,z,d,hk,hn=>by
  rw[levels,if_neg (by omega)];exact Same.refl d
 | k+1,z,d,hk,hn=>by
  rw[levels];split
  ·have h1:=jQ lt z n (by omega) _ 0 d nL hn;exact h1.trans (sU lt n k _ _ (by omega) (by rw[h1.1];exact hn))
  ·exact Same.refl d
theorem Gw(lt:α->α->Bool)(d:Array α):Same d (sort lt d):=by
 have h1:=jU lt d.size _ 0 d nL nL;exact h1.trans (sU lt d.size _ 20 _ nL (by rw[h1.1];exact nL))
end Stab
end
section
open Top
theorem dK{bk o i:Nat}:(⟨bk,o,none⟩:Addr).add i=⟨bk,o+i,none⟩:=by
 simp only[Addr.add];split
 ·next h0=>rw[h0];rfl
 ·rfl
theorem lt_of_cell{w:World}{a:Addr}{v:Value}(h:w.cell? a=some v):a.block<w.heap.size:=by
 refine Decidable.byContradiction fun hh=>?_;unfold World.cell? at h;rw[Array.getElem?_eq_none (by simpa using hh)]at h;exact absurd h (by simp)
theorem jD{z:Nat}{w:World}{B:Nat}{bk o n cap:Nat}{xs:List (List Value)}(hz:∀x∈xs,x.length=z)(h:∀(i:Nat) (x:List Value),xs[i]? =some x->∀(j:Nat) (u:Value),x[j]? =some u->w.cell? ⟨bk,o+i*z+j,none⟩=some u):
 xs.flatten.length=xs.length*z/\∀j u,xs.flatten[j]? =some u->w.cell? ((⟨bk,o,none⟩:Addr).add j)=some u:=by
 induction xs generalizing o with
 | nil=>exact⟨by simp,fun j u hu=>by simp at hu⟩
 | cons x r ih=>
  have hx:=hz x List.mem_cons_self;obtain⟨h1,h2⟩:=ih (o:=o+z) (fun y hy=>hz y (mC _ hy)) (fun i y hy j u hu=>by
   have:=h (i+1) y (by simpa using hy) j u hu;rw[show o+z+i*z+j=o+(i+1)*z+j by rw[Nat.add_mul];omega];exact this)
  refine⟨by rw[List.flatten_cons,lA,h1,hx,lC,Nat.add_mul];omega,fun j u hu=>?_⟩;rw[List.flatten_cons]at hu;rw[dK];by_cases hj:j<x.length
  ·rw[gL hj]at hu;have:=h 0 x rfl j u hu;rw[show o+0*z+j=o+j by omega]at this;exact this
  ·rw[List.getElem?_append_right (by omega)]at hu;have:=h2 _ u hu;rw[dK,show o+z+(j-x.length)=o+j by omega]at this;exact this
theorem Sr:(Tryz.prog.info? 73).map (fun i=>(i.zero,i.size,i.bytes))=some (some (.agg #[.int .i64 0,.int .i64 0,.int .i64 0,.int .i64 0,.int .i64 0,.int .i64 0]),6,48):=by kernel_rfl
theorem mW(w:World)(a:Option Addr)(n c:Nat)(l:List Sp)(hl:l.length=n)(h:RowZ 6 w w.heap.size (.slice a n c) (l.map aU))(hn:n<=1000000000):
 Calls Tryz.prog 109 #[.slice a n c] w fun e w'=>∃a' c',e=.returned (.slice a' n c')/\w'.ownsRow w.heap.size 73 6 (.slice a' n c') n (l.map aU).flatten/\Below w.heap.size w w':=by
 obtain⟨i,hi,hi0,hi1,hi2⟩:=info_parts Sr;cases a with
 | none=>
  have hn0:n=0:=by
   refine Decidable.byContradiction fun hh=>?_;obtain⟨bk,o,cap,e,_⟩:=h.some (by rw[lM];omega);injection e with e1
   exact absurd e1 (by simp)
  subst hn0;have hl0:=List.length_eq_zero_iff.1 hl;subst hl0;have he:∀w:World,(binOp .eql 67 (.slice none 0 c) (.slice none 0 0)).run Tryz.prog w=.ok (.bool true) w:=fun _=>rfl;clear h hl hn;go_enter Tryz.func109,Tryz.ntmps109;go_wp2;go_returns;exact⟨none,0,rfl,World.ownsRow_nil _ _ _ _,bR _ _⟩
 | some ad=>
  have he:∀w:World,(binOp .eql 67 (.slice (some ad) n c) (.slice none 0 0)).run Tryz.prog w=.ok (.bool false) w:=fun _=>rfl;have hsrc:(l.map aU).flatten.length=n*6/\∀j u,(l.map aU).flatten[j]? =some u->w.cell? (ad.add j)=some u:=by
   by_cases hn0:n=0
   ·subst hn0;rw[List.length_eq_zero_iff.1 hl];exact⟨rfl,fun j u hu=>by simp at hu⟩
   ·obtain⟨bk,o,cap,e,hcap,hbk,hu⟩:=h.some (by rw[lM];omega);injection e with e1 e2 e3
    injection e1 with e1
    subst e1;have hf:=jD (B:=0) (n:=0) (cap:=0) (fun x hx=>by
     obtain⟨y,_,rfl⟩:=List.mem_map.1 hx;rfl) hu
    rw[lM,hl]at hf;exact hf
  have h1:∀u∈(l.map aU).flatten,u.oneCell'=true:=fun u hu=>by
   obtain⟨x,hx,hux⟩:=List.mem_flatten.1 hu;obtain⟨y,_,rfl⟩:=List.mem_map.1 hx;simp only[aU,List.mem_cons,List.not_mem_nil,or_false]at hux;rcases hux with rfl | rfl | rfl | rfl | rfl | rfl<;>rfl
  obtain⟨xs,hxs⟩:∃xs,xs=(l.map aU).flatten:=⟨_,rfl⟩;rw[<-hxs]at hsrc h1 |-;have HS:=Hd hsrc;have H1:=Hd h1;clear h hsrc h1 hxs hl;go_enter Tryz.func109,Tryz.ntmps109;have hown:(w.alloc (.cells #[] 73)).drew.ownsRow w.heap.size 73 6 (.slice (some ⟨w.heap.size,0,none⟩) 0 0) 0 []:=(World.ownsRow_lit w #[] 0 nL (by decide) rfl).drew;have hnews:∀j u,xs[j]? =some u->(w.alloc (.cells #[] 73)).cell? (ad.add j)=some u:=fun j u hu=>by
   have hc:=HS.out.2 j u hu;have hlt:=lt_of_cell hc;exact(World.cell?_alloc_old _ _ _ (by omega)).trans hc
  go_wp2_with (at_builtin;refine wpList_append_own _ rfl _ _ 67 rfl w.heap.size 73 i (.agg #[.int .i64 0,.int .i64 0,.int .i64 0,.int .i64 0,.int .i64 0,.int .i64 0]) 6 48 Tryz.underlying67 hi hi0 hi1 hi2 rfl (by decide) _ 0 [] rfl (by first | exact hown | exact(World.ownsRow_lit w #[] 0 nL (by decide) rfl)) ad n c xs rfl HS.out.1 hnews H1.out (by unfold maxLen;omega) (by omega) (by simp) ?_;intro v' w2 hown2 hgrow2 hnil2);obtain⟨a',c',rfl⟩:∃a' c',v'=.slice a' n c':=by
   have:=hown2.2;rw[Nat.zero_add]at this;rcases this with⟨h1,h2⟩ | ⟨g',cap',_,h1,_⟩
   ·exact⟨_,_,by rw[h1,h2]⟩
   ·exact⟨_,_,h1⟩
  rw[Nat.zero_add,List.nil_append]at hown2;have hg2:(w.alloc (.cells #[] 73)).grownBy w2 (some w.heap.size):=hgrow2;have hb2:Below w.heap.size w w2:=((bR _ w).alloc nL (.cells #[] 73)).grown hg2 (by simp) (fun g hg=>by cases hg;exact nL);clear hgrow2 hnil2 hg2;go_returns;exact⟨a',c',rfl,hown2,hb2⟩
theorem zH:(Tryz.prog.info? 101).map (fun i=>(i.zero,i.size,i.bytes))=some (some (.agg #[.string ByteArray.empty,.int .i64 0,.int .i64 0,.int .i64 0]),4,40):=by kernel_rfl
theorem tN(w:World)(a:Option Addr)(n c:Nat)(l:List Pn)(hl:l.length=n)(h:RowZ 4 w w.heap.size (.slice a n c) (l.map aG))(hn:n<=1000000000):
 Calls Tryz.prog 38 #[.slice a n c] w fun e w'=>∃a' c',e=.returned (.slice a' n c')/\w'.ownsRow w.heap.size 101 4 (.slice a' n c') n (l.map aG).flatten/\Below w.heap.size w w':=by
 obtain⟨i,hi,hi0,hi1,hi2⟩:=info_parts zH;cases a with
 | none=>
  have hn0:n=0:=by
   refine Decidable.byContradiction fun hh=>?_;obtain⟨bk,o,cap,e,_⟩:=h.some (by rw[lM];omega);injection e with e1
   exact absurd e1 (by simp)
  subst hn0;have hl0:=List.length_eq_zero_iff.1 hl;subst hl0;have he:∀w:World,(binOp .eql 26 (.slice none 0 c) (.slice none 0 0)).run Tryz.prog w=.ok (.bool true) w:=fun _=>rfl;clear h hl hn;go_enter Tryz.func38,Tryz.ntmps38;go_wp2;go_returns;exact⟨none,0,rfl,World.ownsRow_nil _ _ _ _,bR _ _⟩
 | some ad=>
  have he:∀w:World,(binOp .eql 26 (.slice (some ad) n c) (.slice none 0 0)).run Tryz.prog w=.ok (.bool false) w:=fun _=>rfl;have hsrc:(l.map aG).flatten.length=n*4/\∀j u,(l.map aG).flatten[j]? =some u->w.cell? (ad.add j)=some u:=by
   by_cases hn0:n=0
   ·subst hn0;rw[List.length_eq_zero_iff.1 hl];exact⟨rfl,fun j u hu=>by simp at hu⟩
   ·obtain⟨bk,o,cap,e,hcap,hbk,hu⟩:=h.some (by rw[lM];omega);injection e with e1 e2 e3
    injection e1 with e1
    subst e1;have hf:=jD (B:=0) (n:=0) (cap:=0) (fun x hx=>by
     obtain⟨y,_,rfl⟩:=List.mem_map.1 hx;rfl) hu
    rw[lM,hl]at hf;exact hf
  have h1:∀u∈(l.map aG).flatten,u.oneCell'=true:=fun u hu=>by
   obtain⟨x,hx,hux⟩:=List.mem_flatten.1 hu;obtain⟨y,_,rfl⟩:=List.mem_map.1 hx;simp only[aG,List.mem_cons,List.not_mem_nil,or_false]at hux;rcases hux with rfl | rfl | rfl | rfl<;>rfl
  obtain⟨xs,hxs⟩:∃xs,xs=(l.map aG).flatten:=⟨_,rfl⟩;rw[<-hxs]at hsrc h1 |-;have HS:=Hd hsrc;have H1:=Hd h1;clear h hsrc h1 hxs hl;go_enter Tryz.func38,Tryz.ntmps38;have hown:(w.alloc (.cells #[] 101)).drew.ownsRow w.heap.size 101 4 (.slice (some ⟨w.heap.size,0,none⟩) 0 0) 0 []:=(World.ownsRow_lit w #[] 0 nL (by decide) rfl).drew;have hnews:∀j u,xs[j]? =some u->(w.alloc (.cells #[] 101)).cell? (ad.add j)=some u:=fun j u hu=>by
   have hc:=HS.out.2 j u hu;have hlt:=lt_of_cell hc;exact(World.cell?_alloc_old _ _ _ (by omega)).trans hc
  go_wp2_with (at_builtin;refine wpList_append_own _ rfl _ _ 26 rfl w.heap.size 101 i (.agg #[.string ByteArray.empty,.int .i64 0,.int .i64 0,.int .i64 0]) 4 40 Tryz.underlying26 hi hi0 hi1 hi2 rfl (by decide) _ 0 [] rfl (by first | exact hown | exact(World.ownsRow_lit w #[] 0 nL (by decide) rfl)) ad n c xs rfl HS.out.1 hnews H1.out (by unfold maxLen;omega) (by omega) (by simp) ?_;intro v' w2 hown2 hgrow2 hnil2);obtain⟨a',c',rfl⟩:∃a' c',v'=.slice a' n c':=by
   have:=hown2.2;rw[Nat.zero_add]at this;rcases this with⟨h1,h2⟩ | ⟨g',cap',_,h1,_⟩
   ·exact⟨_,_,by rw[h1,h2]⟩
   ·exact⟨_,_,h1⟩
  rw[Nat.zero_add,List.nil_append]at hown2;have hg2:(w.alloc (.cells #[] 101)).grownBy w2 (some w.heap.size):=hgrow2;have hb2:Below w.heap.size w w2:=((bR _ w).alloc nL (.cells #[] 101)).grown hg2 (by simp) (fun g hg=>by cases hg;exact nL);clear hgrow2 hnil2 hg2;go_returns;exact⟨a',c',rfl,hown2,hb2⟩
end
theorem add_block(b:Addr)(i:Nat):(b.add i).block=b.block:=by
 unfold Addr.add;split<;>rfl
structure Row(w:World)(B:Nat)(v:Value)(xs:List Value):Prop where
 is:∃a cap,v=.slice a xs.length cap/\xs.length<=cap/\∀i u,xs[i]? =some u->∃b,a=some b/\b.block<B/\w.cell? (b.add i)=some u
theorem Row.nil(w:World)(B:Nat):Row w B (.slice none 0 0) []:=⟨_,_,rfl,nL,fun i u h=>by simp at h⟩
theorem Row.some{w:World}{B:Nat}{v:Value}{xs:List Value}(h:Row w B v xs)(hn:0<xs.length):∃b cap,v=.slice (Option.some b) xs.length cap/\b.block<B/\∀i u,xs[i]? =Option.some u->w.cell? (b.add i)=Option.some u:=by
 obtain⟨a,cap,rfl,hlc,hc⟩:=h.is;obtain⟨b,hb,hB,_⟩:=hc 0 xs[0] (gE hn);subst hb;exact⟨b,cap,rfl,hB,fun i u hu=>by
  obtain⟨b',hb',_,hc'⟩:=hc i u hu;cases hb';exact hc'⟩
theorem Row.form{w:World}{B:Nat}{v:Value}{xs:List Value}(h:Row w B v xs):∃a cap,v=.slice a xs.length cap:=by
 obtain⟨a,cap,rfl,hlc,hc⟩:=h.is;exact⟨a,cap,rfl⟩
theorem Row.below{w w':World}{n B:Nat}{v:Value}{xs:List Value}(h:Row w B v xs)(hb:Below n w w')(hB:B<=n):Row w' B v xs:=by
 obtain⟨a,cap,rfl,hlc,hc⟩:=h.is;refine⟨a,cap,rfl,hlc,fun i u hu=>?_⟩;obtain⟨b,hb',hB',hc'⟩:=hc i u hu;refine⟨b,hb',hB',?_⟩;rw[hb.cell (p:=b.add i) (by rw[add_block];omega)];exact hc'
theorem Row.mono{w:World}{B B':Nat}{v:Value}{xs:List Value}(h:Row w B v xs)(hB:B<=B'):Row w B' v xs:=by
 obtain⟨a,cap,rfl,hlc,hc⟩:=h.is;refine⟨a,cap,rfl,hlc,fun i u hu=>?_⟩;obtain⟨b,hb',hB',hc'⟩:=hc i u hu;exact⟨b,hb',by omega,hc'⟩
theorem Row.of_own{w:World}{base:Nat}{e:TypeId}{v:Value}{n:Nat}{xs:List Value}(h:w.ownsRow base e 1 v n xs):Row w w.heap.size v xs:=by
 have hl:xs.length=n:=by have:=h.1;omega
 rcases h.2 with⟨rfl,h0⟩ | ⟨g,cap,cur,rfl,hb,hg,hnc,_⟩
 ·have hx:xs=[]:=List.length_eq_zero_iff.1 (by omega);subst hx;subst h0;exact⟨none,0,rfl,nL,fun i u hu=>by simp at hu⟩
 ·have hgs:g<w.heap.size:=by
   refine Decidable.byContradiction fun hh=>?_;rw[Array.getElem?_eq_none (by omega)]at hg;exact absurd hg (by simp)
  refine⟨_,cap,by rw[hl],by omega,fun i u hu=>⟨⟨g,0,none⟩,rfl,hgs,?_⟩⟩;have hi:i<n:=by have:=(gS hu).1;omega
  have:=h.cellAt i (by omega);rw[hu]at this;rw[<-this];simp only[Addr.add];split
  ·next h0=>rw[h0]
  ·simp
theorem Row.at{w:World}{B:Nat}{v:Value}{xs:List Value}(h:Row w B v xs)(hn:0<xs.length):∃bk o cap,v=.slice (Option.some ⟨bk,o,none⟩) xs.length cap/\xs.length<=cap/\bk<B/\∀(i:Nat) u,xs[i]? =Option.some u->w.cell? ⟨bk,o+i,none⟩=Option.some u:=by
 obtain⟨a,cap,rfl,hlc,hc⟩:=h.is;obtain⟨b,hb,hB,h0⟩:=hc 0 xs[0] (gE hn);subst hb;obtain⟨bk,o,sp⟩:=b;have hsp:sp=none:=by
  cases sp with
  | none=>rfl
  | some x=>
   rw[show(⟨bk,o,Option.some x⟩:Addr).add 0=⟨bk,o,Option.some x⟩from rfl]at h0;unfold World.cell? at h0;simp only at h0;cases hh:w.heap[bk]? with
   | none=>rw[hh]at h0;simp at h0
   | some ob=>rw[hh]at h0;cases ob<;>simp at h0
 subst hsp;refine⟨bk,o,cap,rfl,hlc,hB,fun i u hu=>?_⟩;obtain⟨b',hb',_,hc'⟩:=hc i u hu;cases hb';rw[<-hc'];simp only[Addr.add];split
 ·next h0=>rw[h0];rfl
 ·rfl
theorem Row.drewN{w:World}{B:Nat}{v:Value}{xs:List Value}(h:Row w B v xs)(m:Nat):Row (w.drewN m) B v xs:=by
 obtain⟨a,cap,rfl,hlc,hc⟩:=h.is;exact⟨a,cap,rfl,hlc,fun i u hu=>by
  obtain⟨b,hb',hB',hc'⟩:=hc i u hu;exact⟨b,hb',hB',hc'⟩⟩
structure Grid(w:World)(B:Nat)(v:Value)(ls:List (List (List UInt8))):Prop where
 is:∃vs:List Value,Row w B v vs/\vs.length=ls.length/\∀(i:Nat) (u:Value) (l:List (List UInt8)),vs[i]? =some u->ls[i]? =some l->Row w B u (l.map sv)
theorem Grid.below{w w':World}{n B:Nat}{v:Value}{ls:List (List (List UInt8))}(h:Grid w B v ls)(hb:Below n w w')(hB:B<=n):Grid w' B v ls:=by
 obtain⟨vs,h1,h2,h3⟩:=h.is;exact⟨vs,h1.below hb hB,h2,fun i u l hu hl=>(h3 i u l hu hl).below hb hB⟩
theorem Rt{a b:List UInt8}:((bs a).toList==(bs b).toList)=decide (a=b):=by
 rw[aA,aA];by_cases h:a=b
 ·simp[h]
 ·simp[h]
namespace Cut
def cuts(d:UInt8):List UInt8->List (List UInt8)
 | []=>[[]]
 | c::l=>if c=d then []::cuts d l else
  match cuts d l with
  | []=>[[c]]
  | p::r=>(c::p)::r
def glue(d:UInt8):List (List UInt8)->List UInt8
 | []=>[]
 | [p]=>p
 | p::q::r=>p++d::glue d (q::r)
theorem qW(d:UInt8)(l:List UInt8):cuts d (d::l)=[]::cuts d l:=by simp[cuts]
theorem uF(d:UInt8)(l:List UInt8):cuts d l≠[]:=by
 cases l with
 | nil=>simp[cuts]
 | cons c l=>
  unfold cuts;split
  ·simp
  ·split<;>simp
theorem iX{d c:UInt8}{l p:List UInt8}{r:List (List UInt8)}(h:c≠d)(e:cuts d l=p::r):cuts d (c::l)=(c::p)::r:=by
 rw[cuts,if_neg h,e]
theorem jS(d:UInt8)(l:List UInt8):∃p r,cuts d l=p::r:=by
 cases h:cuts d l with
 | nil=>exact absurd h (uF d l)
 | cons p r=>exact⟨p,r,rfl⟩
theorem Jb(d c:UInt8)(p:List UInt8)(r:List (List UInt8)):glue d ((c::p)::r)=c::glue d (p::r):=by
 cases r<;>simp[glue]
theorem Ja(d:UInt8)(l:List UInt8):glue d (cuts d l)=l:=by
 induction l with
 | nil=>rfl
 | cons c l ih=>
  obtain⟨p,r,e⟩:=jS d l;by_cases h:c=d
  ·subst h;rw[qW,e];show []++c::glue c (p::r)=c::l;rw[<-e,ih];rfl
  ·rw[iX h e,Jb,<-e,ih]
theorem Nn{d:UInt8}{p:List UInt8}(h:d∉p):cuts d p=[p]:=by
 induction p with
 | nil=>rfl
 | cons c p ih=>
  have h1:c≠d:=fun e=>h (by rw[e];exact List.mem_cons_self);exact iX h1 (ih fun k=>h (mC _ k))
theorem mU{d:UInt8}{p l:List UInt8}(h:d∉p):cuts d (p++d::l)=p::cuts d l:=by
 induction p with
 | nil=>exact qW d l
 | cons c p ih=>
  have h1:c≠d:=fun e=>h (by rw[e];exact List.mem_cons_self);exact iX h1 (ih fun k=>h (mC _ k))
theorem xX{d:UInt8}:∀ {ps:List (List UInt8)},ps≠[]->(∀p∈ps,d∉p)->cuts d (glue d ps)=ps
 | [],h,_=>absurd rfl h
 | [p],_,h=>Nn (h p List.mem_cons_self)
 | p::q::r,_,h=>by
  show cuts d (p++d::glue d (q::r))=_;rw[mU (h p List.mem_cons_self),xX (by simp) fun x hx=>h x (mC _ hx)]
end Cut
section
namespace Scan
open Cut
def letter(c:UInt8):Bool:=decide (33<=c.toNat)&&decide (c.toNat<=126)
def Ir(p:List UInt8):Bool:=!p.isEmpty&&p.all letter
def rT(p:List UInt8):Bool:=(cuts 32 p).all Ir
def lY(k:Nat):List (List UInt8)->Nat ⊕ List (List (List UInt8))
 | []=> .inr []
 | [p]=>if p.isEmpty then .inr []else .inl k
 | p::q::r=>if rT p=true then
  (match lY (k+1) (q::r)with
  | .inr ls=> .inr (cuts 32 p::ls)
  | .inl n=> .inl n)else .inl k
def spec(l:List UInt8):Nat ⊕ List (List (List UInt8)):=lY 1 (cuts 10 l)
def Kr(ws:List (List UInt8)):List UInt8:=glue 32 ws++[10]
def iJ(done:List (List (List UInt8))):List UInt8:=(done.map Kr).flatten
def flat(ws:List (List UInt8)):List UInt8:=(ws.map (·++[32])).flatten
def Bv(done:List (List (List UInt8))):Prop:=∀ws∈done,ws≠[]/\∀p∈ws,Ir p=true
theorem qJ{p:List UInt8}(h:Ir p=true):∀c∈p,letter c=true:=by
 simp only[Ir,Bool.and_eq_true,List.all_eq_true]at h;exact h.2
theorem nU{p:List UInt8}{d:UInt8}(hd:letter d=false)(ha:∀c∈p,letter c=true):d∉p:=fun h=>by
 have:=ha d h;rw[hd]at this;exact absurd this (by simp)
theorem Vk:letter 32=false:=by decide
theorem l10:letter 10=false:=by decide
theorem Iz(d:UInt8)(ws:List (List UInt8))(p:List UInt8):glue d (ws++[p])=(ws.map (·++[d])).flatten++p:=by
 induction ws with
 | nil=>simp[glue]
 | cons w ws ih=>
  cases ws with
  | nil=>simp[glue]
  | cons x r=>
   show w++d::glue d ((x::r)++[p])=_;rw[ih];simp
theorem Ar{ws:List (List UInt8)}(h:∀w∈ws,Ir w=true):(10:UInt8)∉flat ws:=by
 intro k;simp only[flat,List.mem_flatten,List.mem_map]at k;obtain⟨l,⟨w,hw,rfl⟩,hk⟩:=k;rcases List.mem_append.1 hk with hk | hk
 ·exact nU l10 (qJ (h w hw)) hk
 ·simp at hk
theorem Mi{ws:List (List UInt8)}(h:∀w∈ws,Ir w=true):(10:UInt8)∉glue 32 ws:=by
 rcases List.eq_nil_or_concat ws with rfl | ⟨r,p,rfl⟩
 ·simp[glue]
 ·simp only[List.concat_eq_append]at h |-;rw[Iz];intro k;rcases List.mem_append.1 k with k | k
  ·exact Ar (fun w hw=>h w (List.mem_append_left _ hw)) k
  ·exact nU l10 (qJ (h p (List.mem_append_right _ (List.mem_singleton.2 rfl)))) k
theorem qV{done:List (List (List UInt8))}(h:Bv done)(rest:List UInt8):cuts 10 (iJ done++rest)=done.map (glue 32)++cuts 10 rest:=by
 induction done with
 | nil=>rfl
 | cons ws done ih=>
  have hw:=h ws List.mem_cons_self;have e:iJ (ws::done)++rest=glue 32 ws++10::(iJ done++rest):=by simp[iJ,Kr]
  rw[e,mU (Mi hw.2),ih fun x hx=>h x (mC _ hx)];rfl
theorem Io{ws:List (List UInt8)}(hne:ws≠[])(h:∀w∈ws,Ir w=true):cuts 32 (glue 32 ws)=ws/\rT (glue 32 ws)=true:=by
 have e:=xX hne fun p hp=>nU Vk (qJ (h p hp));refine⟨e,?_⟩;unfold rT;rw[e,List.all_eq_true];exact h
theorem uR{done:List (List (List UInt8))}(h:Bv done):∀(k:Nat) (X:List (List UInt8)),X≠[]->lY k (done.map (glue 32)++X)=match lY (k+done.length) X with
 | .inr ls=> .inr (done++ls)
 | .inl n=> .inl n:=by
 induction done with
 | nil=>
  intro k X hX;simp only[List.map_nil,List.nil_append,lN,Nat.add_zero];cases lY k X<;>rfl
 | cons ws done ih=>
  intro k X hX;have hw:=h ws List.mem_cons_self;obtain⟨e1,e2⟩:=Io hw.1 hw.2;have ih':=ih (fun x hx=>h x (mC _ hx)) (k+1) X hX;obtain⟨q,r,hq⟩:∃q r,done.map (glue 32)++X=q::r:=by
   cases hd:done.map (glue 32)++X with
   | nil=>exact absurd (List.append_eq_nil_iff.1 hd).2 hX
   | cons q r=>exact⟨q,r,rfl⟩
  simp only[List.map_cons,List.cons_append,hq];rw[hq]at ih';simp only[lY,e2,if_true,ih',e1,lC];rw[show k+1+done.length=k+(done.length+1) by omega];cases lY (k+(done.length+1)) X<;>rfl
theorem Gt{done:List (List (List UInt8))}(h:Bv done):spec (iJ done)=.inr done:=by
 have e:=qV h [];rw[List.append_nil]at e;unfold spec;rw[e,uR h 1 _ (uF _ _)];simp[cuts,lY]
theorem Kz{done:List (List (List UInt8))}(h:Bv done){rest:List UInt8}(hne:rest≠[])(hb:∀p q r,cuts 10 rest=p::q::r->rT p=false):spec (iJ done++rest)=.inl (done.length+1):=by
 unfold spec;rw[qV h,uR h 1 _ (uF _ _)];have e:lY (1+done.length) (cuts 10 rest)=.inl (1+done.length):=by
  rcases hc:cuts 10 rest with _ | ⟨p,_ | ⟨q,r⟩⟩
  ·exact absurd hc (uF _ _)
  ·have hp:p=rest:=by
    have:=Ja 10 rest;rw[hc]at this;exact this
   subst hp;simp[lY,hne]
  ·have:=hb p q r hc;simp[lY,this]
 rw[e];simp only[Sum.inl.injEq];omega
theorem vP{d:UInt8}{u X p:List UInt8}{r:List (List UInt8)}(hu:d∉u)(e:cuts d X=p::r):cuts d (u++X)=(u++p)::r:=by
 induction u with
 | nil=>exact e
 | cons c u ih=>
  have hc:c≠d:=fun k=>hu (by rw[k];exact List.mem_cons_self);exact iX hc (ih fun k=>hu (mC _ k))
theorem Jp{ws:List (List UInt8)}(h:∀w∈ws,Ir w=true)(X:List UInt8):cuts 32 (flat ws++X)=ws++cuts 32 X:=by
 induction ws with
 | nil=>rfl
 | cons w ws ih=>
  have e:flat (w::ws)++X=w++32::(flat ws++X):=by simp[flat]
  rw[e,mU (nU Vk (qJ (h w List.mem_cons_self))),ih fun x hx=>h x (mC _ hx)];rfl
theorem Pz{p:List UInt8}{c:UInt8}(hc:letter c=false)(h:c∈p):Ir p=false:=by
 cases e:Ir p
 ·rfl
 ·have:=qJ e c h;rw[hc]at this;exact absurd this (by simp)
theorem Oe{ws:List (List UInt8)}{p t:List UInt8}{c:UInt8}(hw:∀w∈ws,Ir w=true)(hp:∀x∈p,letter x=true)(hc:letter c=false)(hx:p=[]\/(c≠32/\c≠10)):
 ∀P q r,cuts 10 (flat ws++(p++c::t))=P::q::r->rT P=false:=by
 intro P q r hP;obtain⟨P1,r1,e1⟩:=jS 10 (c::t);have e2:=vP (u:=p) (nU l10 hp) e1;have e3:=vP (u:=flat ws) (Ar hw) e2;rw[e3]at hP;obtain⟨rfl,_⟩:=List.cons.inj hP;have hh:∃h y,cuts 32 (p++P1)=h::y/\Ir h=false:=by
  by_cases h10:c=10
  ·have hpn:p=[]:=hx.elim id fun k=>absurd h10 k.2;subst hpn;rw[h10,qW]at e1;obtain⟨rfl,_⟩:=List.cons.inj e1;exact⟨[],[],rfl,rfl⟩
  ·obtain⟨P2,r2,e4⟩:=jS 10 t;rw[iX h10 e4]at e1;obtain⟨rfl,_⟩:=List.cons.inj e1;by_cases h32:c=32
   ·have hpn:p=[]:=hx.elim id fun k=>absurd h32 k.1;subst hpn;rw[h32];exact⟨[],_,qW 32 P2,rfl⟩
   ·obtain⟨z,r3,e5⟩:=jS 32 P2;have e6:=vP (u:=p) (nU Vk hp) (iX h32 e5);exact⟨_,_,e6,Pz hc (List.mem_append_right _ List.mem_cons_self)⟩
 obtain⟨h,y,e7,e8⟩:=hh;unfold rT;rw[Jp hw,e7];simp[e8]
structure St(T:List UInt8)(k:Nat)(done:List (List (List UInt8)))(ws:List (List UInt8))(p:List UInt8):Prop where
 eq:T.take k=iJ done++(flat ws++p)
 le:k<=T.length
 good:Bv done
 gw:∀w∈ws,Ir w=true
 gp:∀c∈p,letter c=true
theorem St.start(T:List UInt8):St T 0 [] [] []:=⟨by simp[iJ,flat],Nat.zero_le _,fun ws h=>by simp at h,fun w h=>by simp at h,fun c h=>by simp at h⟩
theorem St.done{T k done}(h:St T k done [] [])(hk:k=T.length):spec T=.inr done:=by
 have:=h.eq;rw[hk,List.take_length]at this;simp only[flat,List.map_nil,List.flatten_nil,List.append_nil]at this;rw[this];exact Gt h.good
theorem St.take_succ{T:List UInt8}{k:Nat}{c:UInt8}(hc:T[k]? =some c):T.take (k+1)=T.take k++[c]:=by
 rw[List.take_add_one,hc];rfl
theorem St.more{T k done ws p c}(h:St T k done ws p)(hc:T[k]? =some c)(hl:letter c=true):St T (k+1) done ws (p++[c]):=by
 have hk:=(gS hc).1;exact⟨by rw[St.take_succ hc,h.eq];simp,hk,h.good,h.gw,fun x hx=>(List.mem_append.1 hx).elim (h.gp x) fun k=>by rw[List.mem_singleton.1 k];exact hl⟩
theorem St.bad{T k done ws p c}(h:St T k done ws p)(hc:T[k]? =some c)(hl:letter c=false)(hx:p=[]\/(c≠32/\c≠10)):spec T=.inl (done.length+1):=by
 have hk:=(gS hc);have e:T=iJ done++(flat ws++(p++c::T.drop (k+1))):=by
  have e1:T=T.take k++T.drop k:=(List.take_append_drop k T).symm;rw[h.eq,List.drop_eq_getElem_cons hk.1,hk.2]at e1;simpa using e1
 rw[e];exact Kz h.good (by simp) (Oe h.gw h.gp hl hx)
end Scan
end

theorem byte_at(s:ByteArray){k:Nat}(h:k<s.size):s.data.toList[k]? =some s[k]:=by
 rw[gE (by simpa using h)];rfl
theorem fD(s:ByteArray):s.data.toList.length=s.size:=by simp
theorem xA{s:ByteArray}(h:s.size=0):s=ByteArray.empty:=by
 apply ByteArray.ext;apply Array.ext';have:s.data.toList.length=0:=by rw[fD];exact h
 rw[List.length_eq_zero_iff.1 this];rfl
theorem pU{s:ByteArray}(h:0<s.size):(s.toList==([]:List UInt8))=false:=by
 rw[beq_eq_false_iff_ne,ByteArray.toList_eq];intro e;have:=fD s;rw[e]at this;simp at this;omega
namespace Scan
def small(c:UInt8):Bool:=decide (97<=c.toNat)&&decide (c.toNat<=122)
def other(c:UInt8):Bool:=(decide (48<=c.toNat)&&decide (c.toNat<=57)) || decide (c.toNat=45)
def dG:List UInt8->Bool
 | []=>false
 | c::l=>small c&&l.all (fun x=>small x || other x)&&decide ((c::l).length<=16)
end Scan
theorem yK(x:List UInt8):((bs x).toList==([]:List UInt8))=x.isEmpty:=by
 rw[aA];cases x<;>rfl
theorem Kt{p:UInt8->Bool}(h:(List.range 256).all (fun n=>p (UInt8.ofNat n))=true)(c:UInt8):p c=true:=by
 have:=List.all_eq_true.1 h c.toNat (List.mem_range.2 c.toNat_lt);simpa using this
def az:ByteArray:=⟨#[97,98,99,100,101,102,103,104,105,106,107,108,109,110,111,112,113,114,115,116,117,118,119,120,121,122]⟩
def Kc:ByteArray:=⟨#[97,98,99,100,101,102,103,104,105,106,107,108,109,110,111,112,113,114,115,116,117,118,119,120,121,122,48,49,50,51,52,53,54,55,56,57,45]⟩
theorem Bq(c:UInt8):az.data.toList.contains c=Scan.small c:=by
 have:=Kt (p:=fun c=>az.data.toList.contains c==Scan.small c) (by decide+kernel) c;simpa using this
theorem wU(c:UInt8):Kc.data.toList.contains c=(Scan.small c || Scan.other c):=by
 have:=Kt (p:=fun c=>Kc.data.toList.contains c==(Scan.small c || Scan.other c)) (by decide+kernel) c;simpa using this
theorem oH{p q:UInt8->Bool}(h:∀c,p c=true->q c=true)(l:List UInt8):(l.dropWhile p).all q=l.all q:=by
 induction l with
 | nil=>rfl
 | cons c l ih=>
  rw[List.dropWhile_cons];cases hp:p c
  ·simp
  ·simp[ih,h c hp]
theorem wR{p:UInt8->Bool}{l:List UInt8}:l.dropWhile p=[]↔l.all p=true:=by
 induction l with
 | nil=>simp
 | cons c l ih=>
  rw[List.dropWhile_cons];cases hp:p c
  ·simp[hp]
  ·simp[hp,ih]
theorem Gh(l cs:List UInt8):(Go.Lib.trimS l cs).isEmpty=l.all (fun c=>cs.contains c):=by
 have h:Go.Lib.trimS l cs=[]↔l.all (fun c=>cs.contains c)=true:=by
  unfold Go.Lib.trimS Go.Lib.trimLeftS Go.Lib.trimRightS;rw[wR,List.all_reverse,oH (fun c h=>h),List.all_reverse]
 cases ht:l.all (fun c=>cs.contains c)
 ·cases he:Go.Lib.trimS l cs with
  | nil=>exact absurd (h.1 he) (by rw[ht];exact Bool.false_ne_true)
  | cons c r=>rfl
 ·rw[h.2 ht];rfl
namespace Scan
def nZ(k:Nat)(c:UInt8):Bool:=small c || (decide (k≠0)&&other c)
theorem Ak{l:List UInt8}(hp:l≠[]){k:Nat}(h:∀(i:Nat) c,i<k->l[i]? =some c->nZ i c=true)(hk:l.length<=k):dG l=decide (l.length<=16):=by
 cases l with
 | nil=>exact absurd rfl hp
 | cons c r=>
  have h0:small c=true:=by have:=h 0 c (by simp at hk;omega) rfl;simpa[nZ]using this
  have h1:r.all (fun x=>small x || other x)=true:=by
   rw[List.all_eq_true];intro x hx;obtain⟨i,hi,rfl⟩:=eI.1 hx;have:=h (i+1) r[i] (by simp at hk;omega) (by simp[hi]);simp only[nZ,Bool.or_eq_true,Bool.and_eq_true]at this |-;rcases this with h | h
   ·exact Or.inl h
   ·exact Or.inr h.2
  simp only[dG,h0,h1,Bool.true_and]
theorem nQ{l:List UInt8}{i:Nat}{c:UInt8}(hc:l[i]? =some c)(h:nZ i c=false):dG l=false:=by
 cases l with
 | nil=>simp at hc
 | cons x r=>
  cases i with
  | zero=>
   simp at hc;subst hc;have:small x=false:=by simpa[nZ]using h
   simp[dG,this]
  | succ i=>
   have hx:(small c || other c)=false:=by simpa[nZ]using h
   have hm:r.all (fun x=>small x || other x)=false:=by
    rw[List.all_eq_false];exact⟨c,mG (by simpa using hc),by simp[hx]⟩
   simp[dG,hm]
theorem sS(l:List UInt8):dG l=(!l.isEmpty&&(decide (l.length<=16)&&(decide (l.dropWhile small≠l)&&(l.dropWhile small).all (fun c=>small c || other c)))):=by
 cases l with
 | nil=>rfl
 | cons c r=>
  have e:=oH (p:=small) (q:=fun c=>small c || other c) (fun c h=>by simp[h]) (c::r);rw[e];simp only[dG,List.isEmpty_cons,Bool.not_false,Bool.true_and];cases hs:small c
  ·rw[List.dropWhile_cons,hs];simp
  ·have hne:(c::r).dropWhile small≠c::r:=by
    rw[List.dropWhile_cons,hs];intro h;have h1:=congrArg List.length h;have h2:(r.dropWhile small).length<=r.length:=(List.dropWhile_sublist _).length_le;simp at h1;omega
   simp only[hne,ne_eq,not_false_eq_true,decide_true,Bool.true_and,List.all_cons,hs,Bool.true_or];cases decide ((c::r).length<=16)<;>cases r.all (fun x=>small x || other x)<;>rfl
end Scan
theorem Ub(s:ByteArray):Go.Lib.trimLeftS s.data.toList az.data.toList=s.data.toList.dropWhile Scan.small:=by
 unfold Go.Lib.trimLeftS;congr 1;funext c;exact Bq c
theorem Ot(a b:ByteArray):(a.toList==b.toList)=decide (a.data.toList=b.data.toList):=by
 rw[ByteArray.toList_eq,ByteArray.toList_eq];by_cases h:a.data.toList=b.data.toList
 ·rw[h,decide_eq_true rfl];exact beq_self_eq_true _
 ·rw[beq_eq_false_iff_ne.2 h,decide_eq_false h]
theorem Qd:(Tryz.prog.info? (Tryz.lays161_ren.t 116)).map (fun i=>(i.zero,i.size))=some (some (.agg (Array.replicate 256 (.bool false))),256):=by kernel_rfl
theorem zN(s:ByteArray)(w:World):Calls Tryz.prog 105 #[.string s,.string az] w fun e w'=>e=.returned (.string (bs (s.data.toList.dropWhile Scan.small)))/\Below w.heap.size w w':=
 (Any.strings_TrimLeft_laid Tryz.lays161 Qd s az w (by decide) (ascii_of_all (by decide))).mono fun e w' ⟨he,hb⟩=>⟨by rw[he,Ub];rfl,hb⟩
theorem Mq:(Tryz.prog.info? (Tryz.lays160_ren.t 116)).map (fun i=>(i.zero,i.size))=some (some (.agg (Array.replicate 256 (.bool false))),256):=by kernel_rfl
theorem Ol(s:ByteArray)(hs:s.size<=9223372036854775807)(w:World):Calls Tryz.prog 106 #[.string s,.string Kc] w fun e w'=>∃r,e=.returned (.string r)/\(r.toList==([]:List UInt8))=s.data.toList.all (fun c=>Scan.small c || Scan.other c)/\Below w.heap.size w w':=
 (Any.strings_Trim_laid Tryz.lays160 Mq s Kc w hs (by decide) (ascii_of_all (by decide))).mono fun e w' ⟨he,hb⟩=>⟨_,he,by
  have e1:(⟨(Go.Lib.trimS s.data.toList Kc.data.toList).toArray⟩:ByteArray)=bs (Go.Lib.trimS s.data.toList Kc.data.toList):=rfl;rw[e1,yK,Gh];congr 1;funext c;exact wU c,hb⟩
theorem vD(s:ByteArray)(hs:s.size<=9223372036854775807)(w:World):
 Calls Tryz.prog 55 #[.string s] w fun e w'=>e=.returned (.bool (Scan.dG s.data.toList))/\Below w.heap.size w w':=by
 have HT:=Hd (Scan.sS s.data.toList);have hsl:=fD s;obtain⟨r,hr⟩:∃r,r=bs (s.data.toList.dropWhile Scan.small):=⟨_,rfl⟩;have hrl:r.data.toList=s.data.toList.dropWhile Scan.small:=by rw[hr];rfl
 have hrs:r.size<=9223372036854775807:=by
  rw[<-fD r,hrl];have:=(List.dropWhile_sublist (p:=Scan.small) (l:=s.data.toList)).length_le;omega
 have hq2:(r.toList==s.toList)=decide (s.data.toList.dropWhile Scan.small=s.data.toList):=by rw[Ot,hrl]
 have HR:=Hd hr;have HRL:=Hd hrl;clear hr hrl;by_cases he:s.size=0
 ·obtain rfl:=xA he;clear he;go_enter Tryz.func55,Tryz.ntmps55;go_wp2_with fail;refine(zN _ _).mono ?_;rintro e w1 ⟨rfl,hb1⟩;rw[<-HR.out];go_wp2;go_returns;exact⟨rfl,hb1⟩
 ·have hq1:(s.toList==([]:List UInt8))=false:=pU (by omega);have hq1':s.data.toList.isEmpty=false:=by
   cases hh:s.data.toList with
   | nil=>rw[hh]at hsl;simp at hsl;omega
   | cons c l=>rfl
  rw[hq1',hsl]at HT;by_cases h16:s.size<=16
  ·have d16:decide (s.size<=16)=true:=decide_eq_true h16;rw[d16]at HT;by_cases hd:s.data.toList.dropWhile Scan.small=s.data.toList
   ·rw[decide_eq_true hd]at hq2;have HF:Hid (Scan.dG s.data.toList=false):=Hd (by rw[HT.out,decide_eq_false (not_not_intro hd)];rfl);clear HT hd hsl hq1' d16;go_enter Tryz.func55,Tryz.ntmps55;go_wp2_with fail;refine(zN _ _).mono ?_;rintro e w1 ⟨rfl,hb1⟩;rw[<-HR.out];go_wp2;go_returns;exact⟨by rw[HF.out];rfl,hb1⟩
   ·rw[decide_eq_false hd]at hq2;have HF:Hid (Scan.dG s.data.toList=r.data.toList.all (fun c=>Scan.small c || Scan.other c)):=Hd (by rw[HT.out,decide_eq_true (p:=¬_) hd,HRL.out];simp);clear HT hd hsl hq1' d16;go_enter Tryz.func55,Tryz.ntmps55;go_wp2_with fail;refine(zN _ _).mono ?_;rintro e w1 ⟨rfl,hb1⟩;rw[<-HR.out];go_wp2_with fail;refine(Ol _ hrs _).mono ?_;rintro e w2 ⟨t,rfl,ht,hb2⟩;cases hall:r.data.toList.all (fun c=>Scan.small c || Scan.other c)
    ·rw[hall]at ht;have HALL:=Hd hall;clear hall;go_wp2;go_returns;exact⟨by rw[HF.out,HALL.out];rfl,hb1.trans (hb2.mono hb1.size)⟩
    ·rw[hall]at ht;have HALL:=Hd hall;clear hall;go_wp2;go_returns;exact⟨by rw[HF.out,HALL.out];rfl,hb1.trans (hb2.mono hb1.size)⟩
  ·have d16:decide (s.size<=16)=false:=decide_eq_false h16;have HF:Hid (Scan.dG s.data.toList=false):=Hd (by rw[HT.out,d16];simp);clear HT hsl hq1' d16;go_enter Tryz.func55,Tryz.ntmps55;go_wp2_with fail;refine(zN _ _).mono ?_;rintro e w1 ⟨rfl,hb1⟩;rw[<-HR.out];go_wp2;go_returns;exact⟨by rw[HF.out];rfl,hb1⟩
theorem rD{c:UInt8}:Scan.small c=true↔97<=c.toNat/\c.toNat<=122:=by simp[Scan.small]
theorem kG{c:UInt8}:Scan.other c=true↔(48<=c.toNat/\c.toNat<=57)\/c.toNat=45:=by simp[Scan.other]
theorem xE(s:ByteArray)(hs:s.size<=9223372036854775807)(w:World):
 Calls Tryz.prog 61 #[.string s] w fun e w'=>e=.returned (.bool (Scan.dG s.data.toList))/\w'=w:=by
 have HSL:=Hd (fD s);go_enter Tryz.func61,Tryz.ntmps61;go_wp2;go_loopw [3] (fun p wr=>∃k:Nat,p=.int .i64 k/\k<=s.size/\(∀(i:Nat) c,i<k->s.data.toList[i]? =some c->Scan.nZ i c=true)/\wr=w) (fun p _=>s.size-(intOf p).toNat);case atStart=>exact⟨0,rfl,by omega,fun i c h=>by omega,rfl⟩
 case round=>
  obtain⟨k,rfl,hk,hall,rfl⟩:=hrel;have HA:=Hd hall;clear hall;by_cases hks:k<s.size
  ·have HC:=Hd (byte_at s hks);have hnext:Scan.nZ k s[k]=true->∀(i:Nat) c,i<k+1->s.data.toList[i]? =some c->Scan.nZ i c=true:=fun h i c hi hc=>by
    by_cases he:i=k
    ·subst he;rw[HC.out]at hc;cases hc;exact h
    ·exact HA.out i c (by omega) hc
   have HX:=Hd hnext;clear hnext;have hkk:((k:Int)==0)=decide (k=0):=by
    by_cases h:k=0
    ·simp[h]
    ·rw[decide_eq_false h,beq_eq_false_iff_ne];omega
   by_cases h1:97<=(s[k].toNat:Int)
   ·by_cases h2:(s[k].toNat:Int)<=122
    ·have HO:=Hd (HX.out (by have:Scan.small s[k]=true:=rD.2 (by omega);simp[Scan.nZ,this]));by_cases h3:(s[k].toNat:Int)<=57
     ·omega
     ·have h4:48<=(s[k].toNat:Int):=by omega
      have h5:((s[k].toNat:Int)==45)=false:=by rw[beq_eq_false_iff_ne];omega
      clear HX hkk;go_wp2;go_roundw;case rel=>exact⟨k+1,by go_num,by omega,HO.out,trivial⟩
      case measure=>simp[intOf];omega
    ·have HF:=Hd (Scan.nQ HC.out (by
      have a1:Scan.small s[k]=false:=by cases h:Scan.small s[k]with | false=>rfl | true=>have:=rD.1 h;omega
      have a2:Scan.other s[k]=false:=by cases h:Scan.other s[k]with | false=>rfl | true=>have:=kG.1 h;omega
      simp[Scan.nZ,a1,a2]))
     have h3:¬(s[k].toNat:Int)<=57:=by omega
     have h4:48<=(s[k].toNat:Int):=by omega
     have h5:((s[k].toNat:Int)==45)=false:=by rw[beq_eq_false_iff_ne];omega
     clear HX;by_cases hk0:k=0
     ·rw[decide_eq_true hk0]at hkk;have H0:=Hd hk0;clear hk0;go_wp2;go_returns;exact⟨by rw[HF.out];rfl,rfl⟩
     ·rw[decide_eq_false hk0]at hkk;clear hk0;go_wp2;go_returns;exact⟨by rw[HF.out];rfl,rfl⟩
   ·have a1:Scan.small s[k]=false:=by cases h:Scan.small s[k]with | false=>rfl | true=>have:=rD.1 h;omega
    by_cases hk0:k=0
    ·have HF:=Hd (Scan.nQ HC.out (by unfold Scan.nZ;rw[a1,decide_eq_false (not_not_intro hk0)];rfl));rw[decide_eq_true hk0]at hkk;have H0:=Hd hk0;clear HX a1 hk0;have hd:48<=(s[k].toNat:Int)\/¬48<=(s[k].toNat:Int):=by omega
     by_cases h4:48<=(s[k].toNat:Int)
     ·have h5:((s[k].toNat:Int)==45)=false:=by rw[beq_eq_false_iff_ne];omega
      by_cases h3:(s[k].toNat:Int)<=57
      ·go_wp2;go_returns;exact⟨by rw[HF.out];rfl,rfl⟩
      ·go_wp2;go_returns;exact⟨by rw[HF.out];rfl,rfl⟩
     ·by_cases h6:(s[k].toNat:Int)=45
      ·have h5:((s[k].toNat:Int)==45)=true:=by rw[beq_iff_eq];exact h6
       clear h6;go_wp2;go_returns;exact⟨by rw[HF.out];rfl,rfl⟩
      ·have h5:((s[k].toNat:Int)==45)=false:=by rw[beq_eq_false_iff_ne];exact h6
       go_wp2;go_returns;exact⟨by rw[HF.out];rfl,rfl⟩
    ·rw[decide_eq_false hk0]at hkk;by_cases h4:48<=(s[k].toNat:Int)
     ·have h5:((s[k].toNat:Int)==45)=false:=by rw[beq_eq_false_iff_ne];omega
      by_cases h3:(s[k].toNat:Int)<=57
      ·have HO:=Hd (HX.out (by have:Scan.other s[k]=true:=kG.2 (by omega);simp[Scan.nZ,this,hk0]));clear HX a1 hk0;go_wp2;go_roundw;case rel=>exact⟨k+1,by go_num,by omega,HO.out,trivial⟩
       case measure=>simp[intOf];omega
      ·have HF:=Hd (Scan.nQ HC.out (by
        have a2:Scan.other s[k]=false:=by cases h:Scan.other s[k]with | false=>rfl | true=>have:=kG.1 h;omega
        simp[Scan.nZ,a1,a2]))
       clear HX a1;go_wp2;go_returns;exact⟨by rw[HF.out];rfl,rfl⟩
     ·by_cases h6:(s[k].toNat:Int)=45
      ·have h5:((s[k].toNat:Int)==45)=true:=by rw[beq_iff_eq];exact h6
       have HO:=Hd (HX.out (by have:Scan.other s[k]=true:=kG.2 (by omega);simp[Scan.nZ,this,hk0]));clear HX a1 hk0 h6;go_wp2;go_roundw;case rel=>exact⟨k+1,by go_num,by omega,HO.out,trivial⟩
       case measure=>simp[intOf];omega
      ·have h5:((s[k].toNat:Int)==45)=false:=by rw[beq_eq_false_iff_ne];exact h6
       have HF:=Hd (Scan.nQ HC.out (by
        have a2:Scan.other s[k]=false:=by cases h:Scan.other s[k]with | false=>rfl | true=>have:=kG.1 h;omega
        simp[Scan.nZ,a1,a2]))
       clear HX a1;go_wp2;go_returns;exact⟨by rw[HF.out];rfl,rfl⟩
  ·by_cases he:s.size=0
   ·obtain rfl:=xA he;go_wp2;go_returns;exact⟨rfl,rfl⟩
   ·have hq1:(s.toList==([]:List UInt8))=false:=pU (by omega);have hq2:(s.data.toList==([]:List UInt8))=false:=by rw[<-ByteArray.toList_eq];exact hq1
    have HF:=Hd (Scan.Ak (l:=s.data.toList) (k:=k) (by intro h;rw[h]at hq2;simp at hq2) HA.out (by rw[HSL.out];omega));by_cases h16:s.size<=16
    ·have HD:Hid (decide (s.data.toList.length<=16)=true):=Hd (by rw[HSL.out];simpa using h16);go_wp2;go_returns;exact⟨by rw[HF.out,HD.out];show Ending.returned (.bool (decide ((s.size:Int)<=16)))=_;rw[decide_eq_true (by omega)],rfl⟩
    ·have HD:Hid (decide (s.data.toList.length<=16)=false):=Hd (by rw[HSL.out];simpa using h16);go_wp2;go_returns;exact⟨by rw[HF.out,HD.out];show Ending.returned (.bool (decide ((s.size:Int)<=16)))=_;rw[decide_eq_false (by omega)],rfl⟩
section
def jumps(J:Nat->Act->World->Prop)(Q:Exit->Act->World->Prop):Exit->Act->World->Prop
 | .goto l,a,w=>J l a w
 | e,a,w=>Q e a w
theorem kR{J J':Nat->Act->World->Prop}{Q:Exit->Act->World->Prop}(h:∀l a w,J l a w->J' l a w):∀e a w,jumps J Q e a w->jumps J' Q e a w:=fun e a w hq=>by
 cases e<;>first | exact h _ _ _ hq | exact hq
section
variable{P:Program}{a:Act}{w:World}{Q:Exit->Act->World->Prop}
theorem uJ{G:Type}{c:Code}(J:Nat->G->Act->World->Prop)(μ:Nat->G->Nat)
 (hp:∀l g a w,J l g a w->∃rest,findLabel c l=some rest/\rest.wp P (jumps (fun l' a' w'=>∃g',J l' g' a' w'/\μ l' g'<μ l g) Q) a w)
 (first:c.wp P (jumps (fun l a w=>∃g,J l g a w) Q) a w):(Code.scope c).wp P Q a w:=by
 intro b k cs;have key:∀n l g a w,μ l g=n->J l g a w->∃e a' w' rest,findLabel c l=some rest/\Q e a' w'/\Arrives P (lone (b.at a (.code rest:: .inScope c::k)) cs w) b k cs e a' w':=by
  intro n;induction n using Nat.strongRecOn with
  | _ n ih=>
   intro l g a w hn hJ;obtain⟨rest,hf,hw⟩:=hp l g a w hJ;obtain⟨e,a₁,w₁,hq,harr⟩:=hw b (.inScope c::k) cs;cases e with
   | normal=>exact⟨.normal,a₁,w₁,rest,hf,hq,Steps.trans harr (.one step_inScope)⟩
   | exit id=>exact⟨.exit id,a₁,w₁,rest,hf,hq,fun k' hk=>harr k' (by simp[exitTo,hk])⟩
   | goto l'=>
    obtain⟨g',hJ',hlt⟩:=hq;obtain⟨e₂,a₂,w₂,rest₂,hf₂,hq₂,harr₂⟩:=ih _ (by omega) l' g' a₁ w₁ rfl hJ';have hg:gotoIn l' (.inScope c::k)=some (.code rest₂:: .inScope c::k):=by simp[gotoIn,hf₂]
    exact⟨e₂,a₂,w₂,rest,hf,hq₂,.of_steps (harr _ hg) harr₂⟩
   | ret=>exact⟨_,a₁,w₁,rest,hf,hq,harr⟩
   | panic ch=>exact⟨_,a₁,w₁,rest,hf,hq,harr⟩
   | outgrown=>exact⟨_,a₁,w₁,rest,hf,hq,harr⟩
 obtain⟨e,a₁,w₁,hq,harr⟩:=first b (.inScope c::k) cs;cases e with
 | normal=>exact⟨.normal,a₁,w₁,hq,.head step_scope (Steps.trans harr (.one step_inScope))⟩
 | exit id=>exact⟨.exit id,a₁,w₁,hq,fun k' hk=> .head step_scope (harr k' (by simp[exitTo,hk]))⟩
 | goto l=>
  obtain⟨g,hJ⟩:=hq;obtain⟨e₂,a₂,w₂,rest₂,hf₂,hq₂,harr₂⟩:=key _ l g a₁ w₁ rfl hJ;have hg:gotoIn l (.inScope c::k)=some (.code rest₂:: .inScope c::k):=by simp[gotoIn,hf₂]
  exact⟨e₂,a₂,w₂,hq₂,.of_steps (.head step_scope (harr _ hg)) harr₂⟩
 | ret=>exact⟨_,a₁,w₁,hq,.of_steps (.one step_scope) harr⟩
 | panic ch=>exact⟨_,a₁,w₁,hq,.of_steps (.one step_scope) harr⟩
 | outgrown=>exact⟨_,a₁,w₁,hq,.of_steps (.one step_scope) harr⟩
end
end
end Go.Proofs.YtcohlmdnahdnaaaGreatDoor
