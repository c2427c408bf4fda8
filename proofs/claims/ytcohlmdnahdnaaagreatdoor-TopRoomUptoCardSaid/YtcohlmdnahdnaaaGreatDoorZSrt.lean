/- What a solution is, in plain words. No program stands here. -/
import Derived.Lib.Bytealg
import Derived.Maps.Keyed
import Derived.StringKeys
import Derived.Maps.RangeWalk
import Derived.Maps.OwnSet
import Derived.Maps.OwnOps
import Derived.Sort.Grow
import Derived.Lib.Join
import Derived.Test.YtcohlmdnahdnaaaGreatDoorZSorts
import Derived.Test.YtcohlmdnahdnaaaGreatDoorZTopI
import Derived.Test.YtcohlmdnahdnaaaGreatDoorZVL
namespace Go.Proofs.YtcohlmdnahdnaaaGreatDoor
open Go.RowKit
set_option linter.unusedVariables false
set_option linter.unusedSimpArgs false
set_option maxHeartbeats 16000000
set_option maxRecDepth 100000
namespace Top
structure Pb.Fits(P:Pb)(has:List UInt8->Ve->Bool):Prop where
 own_nodup:∀i x,((P.own i x).map (·.name)).Nodup
 own_name:∀i x,∀w∈P.own i x,w.name≠[]/\(w.kind=1\/w.kind=2)
 own_eq:∀i (x:Nd) es,P.own i {x with edges:=es}=P.own i x
 cands:∀n r v,v∈P.cands n r↔(has n v=true/\P.inR r v=true)
 ctx_rises:∀env p c,P.ctxOf env p=some c->bM (·.name) c
 ctx_in:∀env p c,P.ctxOf env p=some c->has p.name p.v=true/\∀q∈c,q∈env
def bE(g:List Nd)(es:List Eg)(n:List UInt8):Option Nd:=(es.find? fun e=>e.label==n).bind fun e=>g[e.dst.toNat]?
def cZ(g:List Nd)(env:Option (List Pn))(e:Eg):Option (List Pn):=env.bind fun l=>(g[e.dst.toNat]?).bind fun y=>match told l e.label with
 | none=>some (l++[⟨e.label,y.v⟩])
 | some v=>if v=y.v then some l else none
def environment(g:List Nd)(x:Nd):Option (List Pn):=(x.edges.foldl (cZ g) (some x.ctx)).map fQ
structure Sound(P:Pb)(g:List Nd)(i:Nat)(x:Nd):Prop where
 own:∀w∈P.own i x,match bE g x.edges w.name with
  | none=>w.kind≠1
  | some y=>P.inR w.rg y.v=true
 ctx:∀p∈x.ctx,∃y,bE g x.edges p.name=some y/\y.v=p.v
 env:∃env,environment g x=some env/\∀e∈x.edges,∃y,g[e.dst.toNat]? =some y/\((∃w∈P.own i x,w.name=e.label)\/∃p∈x.ctx,p.name=e.label)/\P.ctxOf env ⟨y.name,y.v⟩=some y.ctx
inductive Reached (g:List Nd):Nat->Prop where
 | root:Reached g 0
 | on (i j:Nat) (x:Nd) (e:Eg):Reached g i->g[i]? =some x->e∈x.edges->e.dst=(j:Int)->j<g.length->Reached g j
structure Formed(g:List Nd):Prop where
 some':1<=g.length
 few:g.length<=128
 root:∀x,g[0]? =some x->x.name=[]/\x.v=v0/\x.ctx=[]
 ctx:∀(i:Nat) x,g[i]? =some x->bM (·.name) x.ctx
 diff:∀(i j:Nat) x y,j<i->g[i]? =some x->g[j]? =some y->bO x y=false
 lab:∀(i:Nat) x,g[i]? =some x->bM (·.label) x.edges
 dst:∀(i:Nat) x e,g[i]? =some x->e∈x.edges->∃(j:Nat) (y:Nd),e.dst=(j:Int)/\1<=j/\g[j]? =some y/\y.name=e.label
 reach:∀j,j<g.length->Reached g j
structure Checks(P:Pb)(has:List UInt8->Ve->Bool)(g:List Nd):Prop where
 formed:Formed g
 has:∀(i:Nat) x,g[i]? =some x->0<i->has x.name x.v=true
 sound:∀(i:Nat) x,g[i]? =some x->Sound P g i x
structure Bnded(P:Pb)(nodes:List Nd)(lim i:Nat)(x:Nd)(es:List Eg)(env:List Pn):Prop where
 rises:bM (·.name) env
 ctx:∀p∈x.ctx,p∈env
 must:∀w∈P.own i x,w.kind≠2->∃p∈env,p.name=w.name
 inR:∀w∈P.own i x,∀p∈env,p.name=w.name->P.inR w.rg p.v=true
 named:∀p∈env,(∃w∈P.own i x,w.name=p.name)\/∃q∈x.ctx,q.name=p.name
 len:es.length=env.length
 edge:∀(t:Nat) p,env[t]? =some p->∃(j:Nat) (y:Nd),es[t]? =some (⟨p.name,j⟩:Eg)/\1<=j/\j<lim/\nodes[j]? =some y/\y.name=p.name/\y.v=p.v/\P.ctxOf env p=some y.ctx
theorem Bnded.more{P:Pb}{nodes nodes':List Nd}{lim lim' i:Nat}{x:Nd}{es:List Eg}{env:List Pn}(h:Bnded P nodes lim i x es env)(hl:lim<=lim')(hn:∀(j:Nat) y,j<lim->nodes[j]? =some y->nodes'[j]? =some y):Bnded P nodes' lim' i x es env:=
 ⟨h.rises,h.ctx,h.must,h.inR,h.named,h.len,fun t p hp=>by
  obtain⟨j,y,h1,h2,h3,h4,h5⟩:=h.edge t p hp;exact⟨j,y,h1,h2,by omega,hn j y h3 h4,h5⟩⟩
def kL(P:Pb)(i:Nat)(ctx:List Pn)(w:Wt)(x:Ch):Prop:= {x with pos:=0}=aK P i ctx w
theorem bV(P:Pb)(k:Nat)(ctx:List Pn)(w:Wt):(aK P k ctx w).node=k/\(aK P k ctx w).name=w.name/\(aK P k ctx w).pos=0:=by
 unfold aK;split<;>exact⟨rfl,rfl,rfl⟩
theorem kL.form{P:Pb}{i:Nat}{ctx:List Pn}{w:Wt}{x:Ch}(h:kL P i ctx w x):x.node=i/\x.name=w.name:=by
 obtain⟨h1,h2,_⟩:=bV P i ctx w;unfold kL at h;rw[<-h]at h1 h2;exact⟨h1,h2⟩
theorem Nf{P:Pb}{has:List UInt8->Ve->Bool}(F:P.Fits has){i:Nat}{nd:Nd}{chs:List Ch}(hc:(nd.ctx.map (·.name)).Nodup)(hl:chs.length=(P.own i nd).length)
 (hk:∀(t:Nat) x,chs[t]? =some x->∃w,(P.own i nd)[t]? =some w/\kL P i nd.ctx w x)(hp:∀x∈chs,x.pos<x.many):
 (∀w∈P.own i nd,w.kind≠2->∃p∈fM nd.ctx chs,p.name=w.name)/\(∀w∈P.own i nd,∀p∈fM nd.ctx chs,p.name=w.name->P.inR w.rg p.v=true)/\
 (∀p∈fM nd.ctx chs,(∃w∈P.own i nd,w.name=p.name)\/∃q∈nd.ctx,q.name=p.name)/\(∀p∈nd.ctx,p∈fM nd.ctx chs)/\bM (·.name) (fM nd.ctx chs):=by
 have hnames:chs.map (·.name)=(P.own i nd).map (·.name):=by
  apply List.ext_getElem?;intro t;rw[gM,gM];by_cases ht:t<chs.length
  ·obtain⟨w,hw,hlk⟩:=hk t _ (gE ht);rw[hw,gE ht];simp only[Option.map_some,iS];exact hlk.form.2
  ·rw[List.getElem?_eq_none (by omega),List.getElem?_eq_none (by omega)];rfl
 have hnd:(chs.map (·.name)).Nodup:=by rw[hnames];exact F.own_nodup i nd
 have hen:(((chs.foldl bD nd.ctx)).map (·.name)).Nodup:=fV chs nd.ctx hc
 -- of each want: its choice
 have key:∀w∈P.own i nd,∃x∈chs,kL P i nd.ctx w x:=fun w hw=>by
  obtain⟨t,ht,rfl⟩:=eI.1 hw;have ht':t<chs.length:=by omega
  obtain⟨w',hw',hlk⟩:=hk t _ (gE ht');rw[gE ht]at hw';cases hw';exact⟨_,List.getElem_mem ht',hlk⟩
 have pick:∀w x,x∈chs->kL P i nd.ctx w x->(∃v,told nd.ctx w.name=some v/\P.inR w.rg v=true)\/(told nd.ctx w.name=none/\((∃v,x.pick=some v/\P.inR w.rg v=true)\/(x.pick=none/\w.kind=2))):=fun w x hx hlk=>by
  have hpos:=hp x hx;unfold kL aK at hlk;cases ht:told nd.ctx w.name with
  | some v=>
   rw[ht]at hlk;refine Or.inl ⟨v,rfl,?_⟩;have hv:x.vs=if P.inR w.rg v=true then [v]else []:=congrArg Ch.vs hlk
   have hn:x.none=false:=congrArg Ch.none hlk;by_cases hr:P.inR w.rg v=true
   ·exact hr
   ·rw[if_neg hr]at hv;unfold Ch.many at hpos;rw[hn,hv]at hpos;simp at hpos
  | none=>
   rw[ht]at hlk;refine Or.inr ⟨rfl,?_⟩;have hv:x.vs=P.cands w.name w.rg:=congrArg Ch.vs hlk;have hn:x.none=(w.kind==2):=congrArg Ch.none hlk;unfold Ch.pick;by_cases hlt:x.pos<x.vs.length
   ·refine Or.inl ⟨x.vs[x.pos],gE hlt,?_⟩;have hm:x.vs[x.pos]∈P.cands w.name w.rg:=by rw[<-hv];exact List.getElem_mem hlt
    exact((F.cands _ _ _).1 hm).2
   ·refine Or.inr ⟨List.getElem?_eq_none (by omega),?_⟩;unfold Ch.many at hpos;split at hpos
    ·rename_i hno
     rw[hn]at hno;simpa using hno
    ·omega
 refine⟨fun w hw hk2=>?_,fun w hw p hpe hpn=>?_,fun p hpe=>?_,fun p hpc=>nX.2 (dR chs _ p hpc),xU hc⟩
 ·obtain⟨x,hx,hlk⟩:=key w hw;rcases pick w x hx hlk with⟨v,ht,_⟩ | ⟨ht,⟨v,hv,_⟩ | ⟨_,h2⟩⟩
  ·obtain⟨p,hp1,hp2,_⟩:=eP ht;exact⟨p,nX.2 (dR chs _ p hp1),hp2⟩
  ·have hxn:=hlk.form.2;exact⟨⟨x.name,v⟩,nX.2 (iO chs _ hnd x hx v hv (by rw[hxn];exact ht)),hxn⟩
  ·exact absurd h2 hk2
 ·obtain⟨x,hx,hlk⟩:=key w hw;have hxn:=hlk.form.2;have hpf:=nX.1 hpe;rcases pick w x hx hlk with⟨v,ht,hr⟩ | ⟨ht,⟨v,hv,hr⟩ | ⟨hno,h2⟩⟩
  ·obtain⟨q,hq1,hq2,hq3⟩:=eP ht;have:q=p:=fH hen (dR chs _ q hq1) hpf (by rw[hq2,hpn]);rw[<-this,hq3];exact hr
  ·have hin:=iO chs _ hnd x hx v hv (by rw[hxn];exact ht);have:(⟨x.name,v⟩:Pn)=p:=fH hen hin hpf (by show x.name=p.name;rw[hxn,hpn]);rw[<-this];exact hr
  ·rcases eY chs _ p hpf with h | ⟨y,hy,hyn,hyp,hyt⟩
   ·exact absurd hpn (told_none ht p h)
   ·have:y=x:=fH hnd hy hx (by rw[hyn,hpn,hxn]);rw[this,hno]at hyp;exact absurd hyp (by simp)
 ·rcases eY chs _ p (nX.1 hpe)with h | ⟨y,hy,hyn,_,_⟩
  ·exact Or.inr ⟨p,h,rfl⟩
  ·have:y.name∈(P.own i nd).map (·.name):=by rw[<-hnames];exact List.mem_map.2 ⟨y,hy,rfl⟩
   obtain⟨w,hw,hwn⟩:=List.mem_map.1 this;exact Or.inl ⟨w,hw,by rw[hwn,hyn]⟩
instance:Inhabited Ve:=⟨v0⟩
instance:Inhabited Sp:=⟨⟨v0,v0⟩⟩
instance:Inhabited Dp:=⟨⟨[],[]⟩⟩
instance:Inhabited Pn:=⟨⟨[],v0⟩⟩
instance:Inhabited Wt:=⟨⟨[],0,[]⟩⟩
abbrev Ky:=List UInt8×Ve
def wP:Pk:=⟨[],v0,[],[],[]⟩
def Pk.key(p:Pk):Ky:=(p.name,p.v)
def bY(C:List Pk)(k:Ky):Option Pk:=C.find? fun p=>p.key==k
theorem Jc(p:Pk)(C:List Pk)(k:Ky):bY (p::C) k=if p.key=k then some p else bY C k:=by
 unfold bY;rw[List.find?_cons];by_cases h:p.key=k
 ·simp[h]
 ·rw[beq_eq_false_iff_ne.2 h,if_neg h]
theorem dH{C:List Pk}{k:Ky}{p:Pk}(h:bY C k=some p):p∈C/\p.key=k:=by
 unfold bY at h;exact⟨List.mem_of_find?_eq_some h,by simpa using List.find?_some h⟩
theorem xS{C:List Pk}{k:Ky}(h:bY C k=none):∀p∈C,p.key≠k:=fun p hp e=>by
 unfold bY at h;exact absurd (List.find?_eq_none.1 h p hp) (by simp[e])
def aQ(m:Mf)(d:Dp):List Sp:=match m.over.find? (fun o=>o.name==d.name)with
 | some o=>o.rg
 | none=>d.rg
def Ca(x y:Wt):Bool:=bytesBefore x.name y.name
def gX(m:Mf)(must:List (List Dp))(may:List Dp):List Wt:=(must.flatten.map fun d=>⟨d.name,1,aQ m d⟩)++may.map fun d=>⟨d.name,2,aQ m d⟩
def iP(m:Mf)(must:List (List Dp))(may:List Dp):List Wt:=(Stab.sort Ca (gX m must may).toArray).toList
def iI(m:Mf)(p:Pk):List Wt:=iP m [p.deps] p.opts
def dV(m:Mf)(dev:Bool):List Wt:=iP m (if dev then [m.deps,m.dev]else [m.deps]) m.opts
def eZ(m:Mf)(p:Pk):List Dp:=p.peers.map fun d=>⟨d.name,aQ m d⟩
def aZ(env:List Pn):List Dp->List Pn->Option (List Pn)
 | [],c=>some c
 | d::r,c=>match env.find? (fun q=>q.name==d.name)with
  | none=>none
  | some q=>if gI d.rg q.v then aZ env r (if c.any (fun x=>x.name==d.name)then c else c++[q])else none
def iB(C:List Pk)(m:Mf)(env:List Pn)(p:Pn):Nat->Nat->List Pn->Option (List Pn)
 | 0,_,_=>none
 | f+1,i,c=>match (p::c)[i]? with
  | none=>some (fQ c)
  | some q=>match bY C (q.name,q.v)with
   | none=>none
   | some x=>match aZ env (eZ m x) c with
    | none=>none
    | some c'=>iB C m env p f (i+1) c'
def ctxOf(C:List Pk)(m:Mf)(env:List Pn)(p:Pn):Option (List Pn):=iB C m env p (env.length+2) 0 []
def jW(a b:Ve):Bool:=decide (b.cmp a<0)
def aW(C:List Pk)(n:List UInt8):List Ve:=((C.filter fun p=>p.name==n).map (·.v)).mergeSort fun x y=>!jW y x
def pinned(pins:List Pn)(n:List UInt8)(v:Ve):Bool:=pins.any fun p=>decide (p=⟨n,v⟩)
def Af(pins:List Pn)(n:List UInt8)(a b:Ve):Bool:=pinned pins n a && !pinned pins n b
def bG(C:List Pk)(pins:List Pn)(n:List UInt8)(r:List Sp):List Ve:=(Stab.sort (Af pins n) ((aW C n).filter (gI r)).toArray).toList
def gY(C:List Pk)(m:Mf)(dev:Bool)(pins:List Pn):Pb where
 own i x:=if i=0 then dV m dev else iI m ((bY C (x.name,x.v)).getD wP)
 cands:=bG C pins
 ctxOf:=ctxOf C m
 inR:=gI
def bA(C:List Pk)(n:List UInt8)(v:Ve):Bool:=(bY C (n,v)).isSome
def Names(l:List Dp):Prop:=(l.map (·.name)).Nodup/\∀d∈l,d.name≠[]
theorem Names.nil:Names []:=⟨List.nodup_nil,fun d h=>by simp at h⟩
theorem Names.sub{l l':List Dp}(h:Names l)(hs:l'.Sublist l):Names l':=⟨List.Pairwise.sublist (hs.map _) h.1,fun d hd=>h.2 d (hs.subset hd)⟩
theorem jA{α:Type}[Inhabited α](lt:α->α->Bool)(l:List α):(Stab.sort lt l.toArray).toList.Perm l:=by
 have:=(Stab.Gw lt l.toArray).2;simpa using this
theorem yE(m:Mf)(must:List (List Dp))(may:List Dp):(iP m must may).Perm (gX m must may):=jA _ _
theorem wE{m:Mf}{must:List (List Dp)}{may:List Dp}(h:Names (must.flatten++may)):((iP m must may).map (·.name)).Nodup/\∀w∈iP m must may,w.name≠[]/\(w.kind=1\/w.kind=2):=by
 have hp:=yE m must may;constructor
 ·refine((hp.map (·.name)).nodup_iff).2 ?_;have:(gX m must may).map (·.name)=(must.flatten++may).map (·.name):=by
   unfold gX;rw[List.map_append,List.map_append,List.map_map,List.map_map];rfl
  rw[this];exact h.1
 ·intro w hw;have hw':=hp.mem_iff.1 hw;unfold gX at hw';rcases List.mem_append.1 hw' with hw' | hw'
  ·obtain⟨d,hd,rfl⟩:=List.mem_map.1 hw';exact⟨h.2 d (List.mem_append_left _ hd),Or.inl rfl⟩
  ·obtain⟨d,hd,rfl⟩:=List.mem_map.1 hw';exact⟨h.2 d (List.mem_append_right _ hd),Or.inr rfl⟩
theorem mF{env:List Pn}:∀(l:List Dp) (c c':List Pn),aZ env l c=some c'->(c.map (·.name)).Nodup->(∀q∈c,q∈env)->(c'.map (·.name)).Nodup/\(∀q∈c',q∈env)/\∃t,c'=c++t
 | [],c,c',h,hn,he=>by
  simp only[aZ,iS]at h;subst h;exact⟨hn,he,[],by simp⟩
 | d::r,c,c',h,hn,he=>by
  rw[aZ]at h;split at h
  ·simp at h
  ·rename_i q hq
   split at h
   ·by_cases hc:c.any (fun x=>x.name==d.name)=true
    ·rw[if_pos hc]at h;exact mF r c c' h hn he
    ·rw[if_neg hc]at h;have hqm:=List.mem_of_find?_eq_some hq;have hqn:q.name=d.name:=by simpa using List.find?_some hq
     obtain⟨h1,h2,t,ht⟩:=mF r _ c' h (by
      rw[List.map_append,List.nodup_append];refine⟨hn,by simp,fun a ha b hb e=>hc ?_⟩;obtain⟨x,hx,rfl⟩:=List.mem_map.1 ha;simp only[List.map_cons,List.map_nil,mI]at hb;rw[List.any_eq_true];exact⟨x,hx,by rw[beq_iff_eq,e,hb,hqn]⟩) (fun x hx=>by
      rcases List.mem_append.1 hx with hx | hx
      ·exact he x hx
      ·simp only[mI]at hx;subst hx;exact hqm)
     exact⟨h1,h2,q::t,by rw[ht];simp⟩
   ·simp at h
theorem xY{C:List Pk}{m:Mf}{env:List Pn}{p:Pn}:∀(f i:Nat) (c c':List Pn),iB C m env p f i c=some c'->(c.map (·.name)).Nodup->(∀q∈c,q∈env)->bM (·.name) c'/\(∀q∈c',q∈env)/\(i=0->(bY C (p.name,p.v)).isSome=true)
 | 0,i,c,c',h,_,_=>by simp[iB]at h
 | f+1,i,c,c',h,hn,he=>by
  rw[iB]at h;split at h
  ·rename_i hi
   simp only[iS]at h;subst h;refine⟨fB _ hn,fun q hq=>he q ((bW _ _).mem_iff.1 hq),fun h0=>?_⟩;subst h0;simp at hi
  ·rename_i q hq
   split at h
   ·simp at h
   ·rename_i x hx
    split at h
    ·simp at h
    ·rename_i c2 hc2
     obtain⟨a1,a2,_⟩:=mF _ c c2 hc2 hn he;obtain⟨b1,b2,_⟩:=xY f (i+1) c2 c' h a1 a2;refine⟨b1,b2,fun h0=>?_⟩;subst h0;simp only[gZ,iS]at hq;subst hq;rw[hx];rfl
theorem iY{C:List Pk}{m:Mf}{env:List Pn}{p:Pn}{c:List Pn}(h:ctxOf C m env p=some c):bM (·.name) c/\(∀q∈c,q∈env)/\bA C p.name p.v=true:=by
 obtain⟨h1,h2,h3⟩:=xY _ 0 [] c h List.nodup_nil (fun q hq=>by simp at hq);exact⟨h1,h2,h3 rfl⟩
theorem yH{C:List Pk}{n:List UInt8}{v:Ve}:v∈aW C n↔bA C n v=true:=by
 unfold aW bA;rw[(List.mergeSort_perm _ _).mem_iff,List.mem_map];constructor
 ·rintro⟨p,hp,rfl⟩;obtain⟨h1,h2⟩:=List.mem_filter.1 hp;cases hg:bY C (n,p.v)with
  | some q=>rfl
  | none=>exact absurd (by unfold Pk.key;rw[show p.name=n by simpa using h2]) (xS hg p h1)
 ·intro h;obtain⟨p,hp⟩:=Option.isSome_iff_exists.1 h;obtain⟨h1,h2⟩:=dH hp;unfold Pk.key at h2;simp only[Prod.mk.injEq]at h2;exact⟨p,List.mem_filter.2 ⟨h1,by simpa using h2.1⟩,h2.2⟩
theorem yA{C:List Pk}{pins:List Pn}{n:List UInt8}{r:List Sp}{v:Ve}:v∈bG C pins n r↔(bA C n v=true/\gI r v=true):=by
 unfold bG;rw[(jA _ _).mem_iff,List.mem_filter,yH]
structure Fine(C:List Pk)(m:Mf):Prop where
 pks:∀p∈C,Names (p.deps++p.opts)
 mf:Names (m.deps++m.dev++m.opts)
theorem yX{C:List Pk}{m:Mf}(h:Fine C m)(dev:Bool)(pins:List Pn):(gY C m dev pins).Fits (bA C):=by
 have key:∀i x,((((gY C m dev pins).own i x).map (·.name)).Nodup)/\∀w∈(gY C m dev pins).own i x,w.name≠[]/\(w.kind=1\/w.kind=2):=by
  intro i x;show(List.map _ (if i=0 then _ else _)).Nodup/\∀w∈(if i=0 then _ else _),_;by_cases hi:i=0
  ·rw[if_pos hi];refine wE ?_;cases dev
   ·refine h.mf.sub ?_;simp
   ·rw[if_pos rfl];have:([m.deps,m.dev].flatten++m.opts)=m.deps++m.dev++m.opts:=by simp
    rw[this];exact h.mf
  ·rw[if_neg hi];refine wE ?_;have:([((bY C (x.name,x.v)).getD wP).deps].flatten++((bY C (x.name,x.v)).getD wP).opts)=((bY C (x.name,x.v)).getD wP).deps++((bY C (x.name,x.v)).getD wP).opts:=by simp
   rw[this];cases hg:bY C (x.name,x.v)with
   | none=>exact Names.nil
   | some p=>exact h.pks p (dH hg).1
 exact⟨fun i x=>(key i x).1,fun i x=>(key i x).2,fun i x es=>rfl,fun n r v=>yA,fun env p c hc=>(iY hc).1,fun env p c hc=>⟨(iY hc).2.2,(iY hc).2.1⟩⟩
theorem Si(C:List Pk)(m:Mf)(dev:Bool)(pins:List Pn):∀i j (x y:Nd),0<i->0<j->x.name=y.name->x.v=y.v->(gY C m dev pins).own i x=(gY C m dev pins).own j y:=fun i j x y hi hj hn hv=>by
 show(if i=0 then _ else _)=(if j=0 then _ else _);rw[if_neg (by omega),if_neg (by omega),hn,hv]
end Top
section
open Top
theorem nK{a b c a' b' c':Int}:VL.V.same a b c a' b' c'=true↔a=a'/\b=b'/\c=c':=by simp[VL.V.same]
theorem Hw:Tryz.prog.underlying 101=some (.struct (Tryz.prog.fieldsOf 101)):=by kernel_rfl
theorem Hy:(Tryz.prog.fieldsOf 101).toList.map (fun f=>(f.name,f.type,f.offset))=[("Name",9,0),("Version",50,1)]:=by kernel_rfl
theorem Eb:Tryz.prog.underlying 111=some (.struct (Tryz.prog.fieldsOf 111)):=by kernel_rfl
theorem Ec:(Tryz.prog.fieldsOf 111).toList.map (fun f=>(f.name,f.type,f.offset))=[("Label",9,0),("To",3,1)]:=by kernel_rfl
@[go_sem high] theorem Tv(w:World)(x y:Operand)(xs ys:Array Value):(eqGuard .neq 50 x y (.agg xs) (.agg ys)).run Tryz.prog w=.ok () w:=
 run_eqGuard_agg w .neq 50 x y xs ys (by kernel_rfl)
@[go_sem high] theorem Vb(w:World)(a b c a' b' c':Int):(binOp .neq 50 (.agg #[.int .i64 a,.int .i64 b,.int .i64 c]) (.agg #[.int .i64 a',.int .i64 b',.int .i64 c'])).run Tryz.prog w=.ok (.bool (!VL.V.same a b c a' b' c')) w:=by
 rw[run_neq_struct,VL.uL];rfl
def dF(x y:Pn):Bool:=decide (x=y)
def yS(x y:Eg):Bool:=decide (x=y)
theorem Gg(w:World)(a b c a' b' c':Int):(Op.equalIn 9999 50 (.agg #[.int .i64 a,.int .i64 b,.int .i64 c]) (.agg #[.int .i64 a',.int .i64 b',.int .i64 c'])).run Tryz.prog w=.ok (VL.V.same a b c a' b' c') w:=by
 have hs:=VL.wY;have e:∀w (a b:Int),(Op.equalIn 9998 3 (.int .i64 a) (.int .i64 b)).run Tryz.prog w=.ok (a==b) w:=fun w a b=>run_equalIn_int w 9997 3 _ _ a b Tryz.underlying3;rw[run_equalIn_agg w 9998 50 _ _ VL.wX (by kernel_rfl)];generalize (Tryz.prog.fieldsOf 50).toList=fs at hs;rcases fs with _ | ⟨f,_ | ⟨g,_ | ⟨h,_ | ⟨k,l⟩⟩⟩⟩
 case cons.cons.cons.nil=>
  simp only[List.map_cons,List.map_nil,List.cons.injEq,Prod.mk.injEq,and_true]at hs;obtain⟨⟨n1,t1,o1⟩,⟨n2,t2,o2⟩,⟨n3,t3,o3⟩⟩:=hs
  by_cases ha:a=a'<;>by_cases hb:b=b'<;>by_cases hc:c=c'<;>
   simp[Op.eqFields,n1,t1,o1,n2,t2,o2,n3,t3,o3,go_sem,VL.V.same,ha,hb,hc,e]
 all_goals simp at hs
theorem Nb(w:World)(a b:List UInt8):(Op.equalIn 9999 9 (.string (bs a)) (.string (bs b))).run Tryz.prog w=.ok (decide (a=b)) w:=by
 have:=run_equalIn_string (P:=Tryz.prog) w 9998 9 (bs a) (bs b) Tryz.underlying9;rw[Rt]at this;exact this
@[go_sem high] theorem Tx(w:World)(x y:Operand)(xs ys:Array Value):(eqGuard .neq 101 x y (.agg xs) (.agg ys)).run Tryz.prog w=.ok () w:=
 run_eqGuard_agg w .neq 101 x y xs ys (by kernel_rfl)
@[go_sem high] theorem Tj(w:World)(x y:Operand)(xs ys:Array Value):(eqGuard .neq 111 x y (.agg xs) (.agg ys)).run Tryz.prog w=.ok () w:=
 run_eqGuard_agg w .neq 111 x y xs ys (by kernel_rfl)
theorem Ag(w:World)(n n':List UInt8)(a b c a' b' c':Int):(Op.equalIn 10000 101 (.agg #[.string (bs n),.int .i64 a,.int .i64 b,.int .i64 c]) (.agg #[.string (bs n'),.int .i64 a',.int .i64 b',.int .i64 c'])).run Tryz.prog w=.ok (dF ⟨n,⟨a,b,c⟩⟩ ⟨n',⟨a',b',c'⟩⟩) w:=by
 have hs:=Hy;rw[run_equalIn_agg w 9999 101 _ _ Hw (by kernel_rfl)];generalize (Tryz.prog.fieldsOf 101).toList=fs at hs;rcases fs with _ | ⟨f,_ | ⟨g,_ | ⟨h,l⟩⟩⟩
 case cons.cons.nil=>
  simp only[List.map_cons,List.map_nil,List.cons.injEq,Prod.mk.injEq,and_true]at hs;obtain⟨⟨n1,t1,o1⟩,⟨n2,t2,o2⟩⟩:=hs;have hsz:Tryz.prog.cellsOf 50=3:=by kernel_rfl
  by_cases ha:n=n'<;>cases hv:VL.V.same a b c a' b' c'<;>
   simp[Op.eqFields,n1,t1,o1,n2,t2,o2,go_sem,ha,hv,Nb,Gg,dF]
  ·intro h1 h2 h3;rw[nK.2 ⟨h1,h2,h3⟩]at hv;exact absurd hv (by simp)
  ·exact nK.1 hv
 all_goals simp at hs
theorem Jk(w:World)(n n':List UInt8)(a a':Int):(Op.equalIn 10000 111 (.agg #[.string (bs n),.int .i64 a]) (.agg #[.string (bs n'),.int .i64 a'])).run Tryz.prog w=.ok (yS ⟨n,a⟩ ⟨n',a'⟩) w:=by
 have hs:=Ec;have e:∀w (a b:Int),(Op.equalIn 9999 3 (.int .i64 a) (.int .i64 b)).run Tryz.prog w=.ok (a==b) w:=fun w a b=>run_equalIn_int w 9998 3 _ _ a b Tryz.underlying3;rw[run_equalIn_agg w 9999 111 _ _ Eb (by kernel_rfl)];generalize (Tryz.prog.fieldsOf 111).toList=fs at hs;rcases fs with _ | ⟨f,_ | ⟨g,_ | ⟨h,l⟩⟩⟩
 case cons.cons.nil=>
  simp only[List.map_cons,List.map_nil,List.cons.injEq,Prod.mk.injEq,and_true]at hs;obtain⟨⟨n1,t1,o1⟩,⟨n2,t2,o2⟩⟩:=hs
  by_cases ha:n=n'<;>by_cases hb:a=a'<;>
   simp[Op.eqFields,n1,t1,o1,n2,t2,o2,go_sem,ha,hb,e,Nb,yS]
 all_goals simp at hs
@[go_sem high] theorem Vg(w:World)(n n':List UInt8)(a b c a' b' c':Int):(binOp .neq 101 (.agg #[.string (bs n),.int .i64 a,.int .i64 b,.int .i64 c]) (.agg #[.string (bs n'),.int .i64 a',.int .i64 b',.int .i64 c'])).run Tryz.prog w=.ok (.bool (!dF ⟨n,⟨a,b,c⟩⟩ ⟨n',⟨a',b',c'⟩⟩)) w:=by
 rw[run_neq_struct,Ag];rfl
@[go_sem high] theorem Ux(w:World)(n n':List UInt8)(a a':Int):(binOp .neq 111 (.agg #[.string (bs n),.int .i64 a]) (.agg #[.string (bs n'),.int .i64 a'])).run Tryz.prog w=.ok (.bool (!yS ⟨n,a⟩ ⟨n',a'⟩)) w:=by
 rw[run_neq_struct,Jk];rfl
@[go_sem high] theorem Ty(w:World)(x y:Operand)(xs ys:Array Value):(eqGuard .eql 101 x y (.agg xs) (.agg ys)).run Tryz.prog w=.ok () w:=
 run_eqGuard_agg w .eql 101 x y xs ys (by kernel_rfl)
@[go_sem high] theorem Vh(w:World)(n n':List UInt8)(a b c a' b' c':Int):(binOp .eql 101 (.agg #[.string (bs n),.int .i64 a,.int .i64 b,.int .i64 c]) (.agg #[.string (bs n'),.int .i64 a',.int .i64 b',.int .i64 c'])).run Tryz.prog w=.ok (.bool (dF ⟨n,⟨a,b,c⟩⟩ ⟨n',⟨a',b',c'⟩⟩)) w:=by
 rw[run_eql_struct,Ag];rfl
@[go_sem high] theorem Tw(w:World)(x y:Operand)(xs ys:Array Value):(eqGuard .eql 50 x y (.agg xs) (.agg ys)).run Tryz.prog w=.ok () w:=
 run_eqGuard_agg w .eql 50 x y xs ys (by kernel_rfl)
@[go_sem high] theorem Rs(w:World)(a b c a' b' c':Int):(binOp .eql 50 (.agg #[.int .i64 a,.int .i64 b,.int .i64 c]) (.agg #[.int .i64 a',.int .i64 b',.int .i64 c'])).run Tryz.prog w=.ok (.bool (VL.V.same a b c a' b' c')) w:=by
 rw[run_eql_struct,VL.uL];rfl
end
section
open Top
namespace Top
theorem vI{α:Type}{f:α->List UInt8}{l:List α}{n:List UInt8}{k:Nat}{x:α}(hx:l[k]? =some x)(hn:f x=n)(h:∀(j:Nat) y,j<k->l[j]? =some y->f y≠n):(l.find? fun e=>f e==n)=some x:=by
 induction l generalizing k with
 | nil=>simp at hx
 | cons a r ih=>
  cases k with
  | zero=>
   simp only[gZ,iS]at hx;subst hx;rw[List.find?_cons,beq_iff_eq.2 hn]
  | succ k=>
   rw[List.find?_cons,beq_eq_false_iff_ne.2 (h 0 a (by omega) rfl)];exact ih (by simpa using hx) fun j y hj hy=>h (j+1) y (by omega) (by simpa using hy)
theorem Fw{α:Type}{f:α->List UInt8}{l:List α}{n:List UInt8}(h:∀(j:Nat) y,l[j]? =some y->f y≠n):(l.find? fun e=>f e==n)=none:=by
 rw[List.find?_eq_none];intro x hx;obtain⟨j,hj,rfl⟩:=eI.1 hx;simpa using h j _ (gE hj)
structure MfAt(w:World)(B:Nat)(m:Mf)(v1 v2 v3 v4:Value):Prop where
 deps:DpsAt w B v1 m.deps
 dev:DpsAt w B v2 m.dev
 opts:DpsAt w B v3 m.opts
 over:DpsAt w B v4 m.over
theorem MfAt.below{w w':World}{n B:Nat}{m:Mf}{v1 v2 v3 v4:Value}(h:MfAt w B m v1 v2 v3 v4)(hb:Below n w w')(hB:B<=n):MfAt w' B m v1 v2 v3 v4:=⟨h.deps.below hb hB,h.dev.below hb hB,h.opts.below hb hB,h.over.below hb hB⟩
theorem MfAt.mono{w:World}{B B':Nat}{m:Mf}{v1 v2 v3 v4:Value}(h:MfAt w B m v1 v2 v3 v4)(hB:B<=B'):MfAt w B' m v1 v2 v3 v4:=⟨h.deps.mono hB,h.dev.mono hB,h.opts.mono hB,h.over.mono hB⟩
theorem MfAt.up{w w':World}{m:Mf}{v1 v2 v3 v4:Value}(h:MfAt w w.heap.size m v1 v2 v3 v4)(hb:Below w.heap.size w w'):MfAt w' w'.heap.size m v1 v2 v3 v4:=(h.below hb nL).mono hb.size
def jK(l:List Dp):Prop:=l.length<=1000000/\∀d∈l,d.rg.length<=1000000
def Bt(m:Mf):Prop:=jK m.deps/\jK m.dev/\jK m.opts/\jK m.over
def tX(v1 v2 v3 v4:Value):Value:=.agg #[v1,v2,v3,v4]
def Eu(w0:World)(l:List Sp)(e:Ending)(w':World):Prop:=∃a c,e=.returned (.slice a l.length c)/\w'.ownsRow w0.heap.size 73 6 (.slice a l.length c) l.length (l.map aU).flatten/\Below w0.heap.size w0 w'
theorem Ac{m:Mf}{d o:Dp}{k:Nat}(hx:m.over[k]? =some o)(hn:o.name=d.name)(h:∀(j:Nat) y,j<k->m.over[j]? =some y->y.name≠d.name):aQ m d=o.rg:=by
 unfold aQ;rw[vI (f:=fun o:Dp=>o.name) hx hn h]
theorem Cs{m:Mf}{d:Dp}(h:∀(j:Nat) y,m.over[j]? =some y->y.name≠d.name):aQ m d=d.rg:=by
 unfold aQ;rw[Fw (f:=fun o:Dp=>o.name) h]
theorem jP{m:Mf}{d:Dp}(h:jK m.over)(hd:d.rg.length<=1000000):(aQ m d).length<=1000000:=by
 unfold aQ;split
 ·rename_i o ho
  exact h.2 o (List.mem_of_find?_eq_some ho)
 ·exact hd
end Top
theorem rF(w:World)(m:Mf)(v1 v2 v3 v4:Value)(h:DpsAt w w.heap.size v4 m.over)(hz:jK m.over)(d:Dp)(a:Option Addr)(c:Nat)(hd:iH w w.heap.size (.slice a d.rg.length c) d.rg)(hdz:d.rg.length<=1000000)(ho1:v1.oneCell'=true)(ho2:v2.oneCell'=true)(ho3:v3.oneCell'=true):
 Calls Tryz.prog 99 #[tX v1 v2 v3 v4,.agg #[sv d.name,.slice a d.rg.length c]] w fun e w'=>Eu w (aQ m d) e w':=by
 obtain⟨a4,c4,hv⟩:=h.form;obtain⟨N,hN⟩:∃N,N=m.over.length:=⟨_,rfl⟩;rw[<-hN]at hv;have HN:=Hd hN;have HA:=Hd h;have HZ:=Hd hz;have hNs:N<=1000000:=by rw[hN];exact hz.1
 subst hv;obtain⟨nm,rg⟩:=d;dsimp only at hd hdz |-;obtain⟨K,hK⟩:∃K,K=rg.length:=⟨_,rfl⟩;rw[<-hK]at hd hdz |-;have HK:=Hd hK;have HD:=Hd hd;obtain⟨wb,hwb⟩:∃y,y=(w.alloc (.cells #[v1,v2,v3,.slice a4 N c4] 25)).alloc (.cells #[.string (bs nm),.slice a K c] 75):=⟨_,rfl⟩;have hbb:Below w.heap.size w wb:=by rw[hwb];exact((bR _ w).alloc nL _).alloc (by simp) _
 have hsb:wb.heap.size=w.heap.size+2:=by rw[hwb];simp
 have hcb:∀W,Below wb.heap.size wb W->W.cell? ⟨w.heap.size+1,0,none⟩=some (.string (bs nm))/\W.cell? ⟨w.heap.size+1,1,none⟩=some (.slice a K c):=fun W hW=>
  ⟨(hW.cell (p:=⟨w.heap.size+1,0,none⟩) (by show w.heap.size+1<_;omega)).trans (by rw[hwb];exact aB (by simp) rfl),(hW.cell (p:=⟨w.heap.size+1,1,none⟩) (by show w.heap.size+1<_;omega)).trans (by rw[hwb];exact aB (by simp) rfl)⟩
 have HBB:=Hd hbb;have HSB:=Hd hsb;have HCB:=Hd hcb;have HWB:=Hd hwb;have HO:Hid (v1.oneCell'=true/\v2.oneCell'=true/\v3.oneCell'=true):=Hd ⟨ho1,ho2,ho3⟩;unfold tX sv;clear h hz hN hK hd hwb hbb hsb hcb;go_enter Tryz.func99,Tryz.ntmps99;go_wp2;go_loopw [10] (fun p wr=>∃k:Nat,p=.int .i64 k/\k<=N/\(∀(j:Nat) y,j<k->m.over[j]? =some y->y.name≠nm)/\Below wb.heap.size wb wr) (fun p _=>N-(intOf p).toNat);case atStart=>exact⟨0,rfl,by omega,fun j y h=>absurd h (by omega),by rw[<-HWB.out];exact bR _ _⟩
 case round=>
  obtain⟨wo,rfl⟩:∃y,y=wr:=⟨wr,rfl⟩;obtain⟨k,rfl,hk,hno,hb⟩:=hrel;have HNO:=Hd hno;have hbw:=HBB.out.trans (hb.mono HBB.out.size);have hbs:=hb.size;have hsb:=HSB.out;clear hno;by_cases hkN:k<N
  ·obtain⟨x,hx⟩:∃y,m.over[k]? =some y:=⟨_,gE (by have:=HN.out;omega)⟩;obtain⟨bk,o,cap,hve,hcap,hbk,hat⟩:=HA.out.at (by have:=HN.out;omega);rw[<-HN.out]at hve;cases hve;obtain⟨xa,xc,hxr,x0,x1⟩:=hat k x hx;have x0:=(hbw.cell (p:=⟨bk,o+k*2,none⟩) hbk).trans x0;have x1:=(hbw.cell (p:=⟨bk,o+k*2+1,none⟩) hbk).trans x1;obtain⟨xn,hxn⟩:∃n,n=x.name:=⟨_,rfl⟩;obtain⟨xl,hxl⟩:∃n,n=x.rg.length:=⟨_,rfl⟩;unfold sv at x0;rw[<-hxn]at x0;rw[<-hxl]at x1;have HX:=Hd hx;have HXN:=Hd hxn;have hba:=hbw.alloc hbw.size (.cells #[.string (bs xn),.slice xa xl xc] 75);have hbba:=hb.alloc hbs (.cells #[.string (bs xn),.slice xa xl xc] 75);obtain⟨c0,c1⟩:=HCB.out _ hbba;have HCL:Hid (Calls Tryz.prog 109 #[.slice xa xl xc] (wo.alloc (.cells #[.string (bs xn),.slice xa xl xc] 75)) fun e w'=>∃a' c',e=.returned (.slice a' xl c')/\w'.ownsRow (wo.alloc (.cells #[.string (bs xn),.slice xa xl xc] 75)).heap.size 73 6 (.slice a' xl c') xl (x.rg.map aU).flatten/\Below (wo.alloc (.cells #[.string (bs xn),.slice xa xl xc] 75)).heap.size (wo.alloc (.cells #[.string (bs xn),.slice xa xl xc] 75)) w'):=Hd (by
    have:=HZ.out.2 x (mG hx);rw[<-hxl]at hxr;exact mW _ xa xl xc x.rg hxl.symm ((RowZ.below hxr hba nL).mono hba.size) (by omega))
   have HXL:=Hd hxl;have HBA:=Hd hba;have HBBA:=Hd hbba;clear hx hat hcap hxr hxn hxl hba hbba;by_cases he:xn=nm
   ·have hq:((bs xn).toList==(bs nm).toList)=true:=by rw[aA,aA];simpa using he
    have hq2:(bs xn).toList=(bs nm).toList:=by rw[aA,aA];exact he
    have HF:Hid (aQ m ⟨nm,rg⟩=x.rg):=Hd (Ac HX.out (by rw[<-HXN.out];exact he) HNO.out);clear he;go_wp2_with fail;refine HCL.out.mono ?_;rintro e w2 ⟨a',c',rfl,hrow,hb2⟩;have HR:=Hd hrow;have HB2:=Hd hb2;clear hrow hb2;go_wp2;go_returns;unfold Eu;rw[HF.out,<-HXL.out];exact⟨a',c',rfl,dI HR.out (by rw[sA];omega),HBA.out.trans (HB2.out.mono HBA.out.size)⟩
   ·have hq:((bs xn).toList==(bs nm).toList)=false:=by rw[aA,aA];simpa using he
    have hq2:¬(bs xn).toList=(bs nm).toList:=by rw[aA,aA];exact he
    have HNX:Hid (∀(j:Nat) y,j<k+1->m.over[j]? =some y->y.name≠nm):=Hd (fun j y hj hy=>by
     rcases Nat.lt_or_ge j k with h | h
     ·exact HNO.out j y h hy
     ·have:j=k:=by omega
      subst this;rw[HX.out]at hy;cases hy;rw[<-HXN.out];exact he)
    clear he;go_wp2;go_roundw;case rel=>exact⟨k+1,by go_num,by omega,HNX.out,HBBA.out⟩
    case measure=>simp[intOf];omega
  ·have HF:Hid (aQ m ⟨nm,rg⟩=rg):=Hd (Cs fun j y hy=>HNO.out j y (by have:=(gS hy).1;have:=HN.out;omega) hy);obtain⟨c0,c1⟩:=HCB.out _ hb;have HCL:=Hd (mW wo a K c rg HK.out.symm ((RowZ.below HD.out hbw nL).mono hbw.size) (by omega));have HBW:=Hd hbw;go_wp2_with fail;refine HCL.out.mono ?_;rintro e w2 ⟨a',c',rfl,hrow,hb2⟩;have HR:=Hd hrow;have HB2:=Hd hb2;clear hrow hb2;go_wp2;go_returns;unfold Eu;rw[HF.out,<-HK.out];exact⟨a',c',rfl,dI HR.out (by omega),HBW.out.trans (HB2.out.mono HBW.out.size)⟩
end
namespace Top
structure DpsOwn(w:World)(base:Nat)(v:Value)(l:List Dp)(cs:List Value):Prop where
 len:cs.length=l.length
 row:w.ownsRow base 75 2 v l.length (List.zipWith dJ l cs).flatten
 rgs:∀(i:Nat) (x:Dp) (c:Value),l[i]? =some x->cs[i]? =some c->w.ownsRow base 73 6 c x.rg.length (x.rg.map aU).flatten
theorem DpsOwn.nil(w:World)(base:Nat):DpsOwn w base (.slice none 0 0) [] []:=⟨rfl,World.ownsRow_nil _ _ _ _,fun i x c h=>by simp at h⟩
theorem DpsOwn.kept{w w':World}{base:Nat}{v:Value}{l:List Dp}{cs:List Value}(h:DpsOwn w base v l cs){row:Option Nat}(hg:w.grownBy w' row)(hr:∀k,row=some k->∃cur t fr,w.heap[k]? =some (.cells cur t fr)/\t≠75/\t≠73):DpsOwn w' base v l cs:=by
 have key:∀ {e:TypeId} {z:Nat} {u:Value} {n:Nat} {xs:List Value},e=75\/e=73->w.ownsRow base e z u n xs->w'.ownsRow base e z u n xs:=fun {e z u n xs} he hu=>by
  refine hu.kept hg ?_;cases row with
  | none=>cases u.ownBlock<;>simp
  | some k=>
   obtain⟨cur,t,fr,hk,h1,h2⟩:=hr k rfl;rcases hu.2 with⟨rfl,_⟩ | ⟨g,cap,cur',rfl,_,hg',_⟩
   ·exact Or.inl rfl
   ·refine Or.inr fun e'=>?_;have:g=k:=Option.some.inj e';subst this;rw[hk]at hg';simp only[iS,Obj.cells.injEq]at hg';rcases he with rfl | rfl
    ·exact h1 hg'.2.1
    ·exact h2 hg'.2.1
 exact⟨h.len,key (Or.inl rfl) h.row,fun i x c hx hc=>key (Or.inr rfl) (h.rgs i x c hx hc)⟩
theorem DpsOwn.below{w w':World}{base:Nat}{v:Value}{l:List Dp}{cs:List Value}(h:DpsOwn w base v l cs)(hb:Below w.heap.size w w'):DpsOwn w' base v l cs:=
 h.kept (row:=none) ⟨hb.os,hb.tape,hb.output,hb.size,fun k hk _=>hb.block k hk⟩ fun k hk=>by simp at hk
theorem Kk{l:List Dp}{cs:List Value}(h:cs.length=l.length)(d:Dp)(c:Value):(List.zipWith dJ (l++[d]) (cs++[c])).flatten=(List.zipWith dJ l cs).flatten++dJ d c:=by
 rw[List.zipWith_append h.symm,List.flatten_append];simp
theorem DpsOwn.add{w w':World}{base:Nat}{v v':Value}{l:List Dp}{cs:List Value}(h:DpsOwn w base v l cs){d:Dp}{c:Value}(hg:w.grownBy w' v.ownBlock)(hr:w'.ownsRow base 75 2 v' (l.length+1) ((List.zipWith dJ l cs).flatten++dJ d c))
 (hc:w'.ownsRow base 73 6 c d.rg.length (d.rg.map aU).flatten):DpsOwn w' base v' (l++[d]) (cs++[c]):=by
 refine⟨by simp[h.len],by rw[lA,List.length_singleton,Kk h.len];exact hr,fun i x u hx hu=>?_⟩;by_cases hi:i<l.length
 ·rw[gL hi]at hx;rw[gL (by rw[h.len];exact hi)]at hu;exact(h.rgs i x u hx hu).kept hg (aJ (h.rgs i x u hx hu) h.row (by decide))
 ·rw[List.getElem?_append_right (by omega)]at hx;rw[List.getElem?_append_right (by have:=h.len;omega)]at hu;have e0:i-l.length=0:=by
   have:=(gS hx).1;simp at this;omega
  rw[e0]at hx;rw[show i-cs.length=0 by have:=h.len;omega]at hu;simp only[gZ,iS]at hx hu;subst hx;subst hu;exact hc
theorem DpsOwn.at{w:World}{base:Nat}{v:Value}{l:List Dp}{cs:List Value}(h:DpsOwn w base v l cs):DpsAt w w.heap.size v l:=by
 refine⟨cs,h.len,RowZ.of_own (n:=l.length) (base:=base) (e:=75) ?_ ?_ h.row,fun i x c hx hc=>?_⟩
 ·intro y hy;obtain⟨i,hi,rfl⟩:=eI.1 hy;rw[List.getElem_zipWith];rfl
 ·rw[List.length_zipWith,h.len,Nat.min_self]
 ·refine RowZ.of_own (n:=x.rg.length) (base:=base) (e:=73) ?_ (by rw[lM]) (h.rgs i x c hx hc);intro y hy;obtain⟨s,_,rfl⟩:=List.mem_map.1 hy;rfl
structure RowI(z:Nat)(w:World)(lo hi:Nat)(v:Value)(xs:List (List Value)):Prop where
 is:∃a cap,v=.slice a xs.length cap/\xs.length<=cap/\∀(i:Nat) (x:List Value),xs[i]? =some x->∃bk o,a=some ⟨bk,o,none⟩/\lo<=bk/\bk<hi/\∀(j:Nat) (u:Value),x[j]? =some u->w.cell? ⟨bk,o+i*z+j,none⟩=some u
theorem RowI.row{z:Nat}{w:World}{lo hi:Nat}{v:Value}{xs:List (List Value)}(h:RowI z w lo hi v xs):RowZ z w hi v xs:=by
 obtain⟨a,cap,e,hl,hc⟩:=h.is;exact⟨a,cap,e,hl,fun i x hx=>by
  obtain⟨bk,o,h1,h2,h3,h4⟩:=hc i x hx;exact⟨bk,o,h1,h3,h4⟩⟩
theorem RowI.nil(z:Nat)(w:World)(lo hi:Nat)(c:Nat):RowI z w lo hi (.slice none 0 c) []:=⟨_,_,rfl,Nat.zero_le _,fun i u h=>by simp at h⟩
theorem RowI.keep{z:Nat}{w w':World}{lo hi:Nat}{v:Value}{xs:List (List Value)}(h:RowI z w lo hi v xs)(hk:∀k,lo<=k->k<hi->w'.heap[k]? =w.heap[k]?):RowI z w' lo hi v xs:=by
 obtain⟨a,cap,e,hl,hc⟩:=h.is;refine⟨a,cap,e,hl,fun i x hx=>?_⟩;obtain⟨bk,o,h1,h2,h3,h4⟩:=hc i x hx;refine⟨bk,o,h1,h2,h3,fun j u hj=>?_⟩;rw[World.cell?_of_block (w:=w) (w':=w') (a:=⟨bk,o+i*z+j,none⟩) (hk bk h2 h3)];exact h4 j u hj
theorem RowI.mono{z:Nat}{w:World}{lo hi lo' hi':Nat}{v:Value}{xs:List (List Value)}(h:RowI z w lo hi v xs)(h1:lo'<=lo)(h2:hi<=hi'):RowI z w lo' hi' v xs:=by
 obtain⟨a,cap,e,hl,hc⟩:=h.is;exact⟨a,cap,e,hl,fun i x hx=>by
  obtain⟨bk,o,h3,h4,h5,h6⟩:=hc i x hx;exact⟨bk,o,h3,by omega,by omega,h6⟩⟩
theorem RowI.below{z:Nat}{w w':World}{lo hi n:Nat}{v:Value}{xs:List (List Value)}(h:RowI z w lo hi v xs)(hb:Below n w w')(hn:hi<=n):RowI z w' lo hi v xs:=h.keep fun k _ hk=>hb.block k (by omega)
theorem RowI.form{z:Nat}{w:World}{lo hi:Nat}{v:Value}{xs:List (List Value)}(h:RowI z w lo hi v xs):∃a cap,v=.slice a xs.length cap:=by
 obtain⟨a,cap,e,_⟩:=h.is;exact⟨a,cap,e⟩
theorem RowI.clip{z:Nat}{w:World}{lo hi:Nat}{a:Option Addr}{n c:Nat}{xs:List (List Value)}(h:RowI z w lo hi (.slice a n c) xs):RowI z w lo hi (.slice a n n) xs:=by
 obtain⟨a',cap,e,hl,hc⟩:=h.is;cases e;exact⟨a,xs.length,rfl,nL,hc⟩
theorem RowI.of_own{z:Nat}{w:World}{base:Nat}{e:TypeId}{v:Value}{n:Nat}{xs:List (List Value)}(hz:∀x∈xs,x.length=z)(hl:xs.length=n)(h:w.ownsRow base e z v n xs.flatten):RowI z w base w.heap.size v xs:=by
 have hr:=RowZ.of_own hz hl h;obtain⟨a,cap,hv,hlc,hc⟩:=hr.is;refine⟨a,cap,hv,hlc,fun i x hx=>?_⟩;obtain⟨bk,o,h1,h2,h3⟩:=hc i x hx;refine⟨bk,o,h1,?_,h2,h3⟩;have:=(h.lt bk (by rw[hv,h1];rfl)).1;exact this
structure WtsI(w:World)(lo hi:Nat)(v:Value)(l:List Wt):Prop where
 is:∃cs:List Value,cs.length=l.length/\RowI 3 w lo hi v (List.zipWith jL l cs)/\∀(i:Nat) (x:Wt) (c:Value),l[i]? =some x->cs[i]? =some c->RowI 6 w lo hi c (x.rg.map aU)
theorem WtsI.at{w:World}{lo hi:Nat}{v:Value}{l:List Wt}(h:WtsI w lo hi v l):WtsAt w hi v l:=by
 obtain⟨cs,h1,h2,h3⟩:=h.is;exact⟨cs,h1,h2.row,fun i x c hx hc=>(h3 i x c hx hc).row⟩
theorem WtsI.keep{w w':World}{lo hi:Nat}{v:Value}{l:List Wt}(h:WtsI w lo hi v l)(hk:∀k,lo<=k->k<hi->w'.heap[k]? =w.heap[k]?):WtsI w' lo hi v l:=by
 obtain⟨cs,h1,h2,h3⟩:=h.is;exact⟨cs,h1,h2.keep hk,fun i x c hx hc=>(h3 i x c hx hc).keep hk⟩
theorem WtsI.mono{w:World}{lo hi lo' hi':Nat}{v:Value}{l:List Wt}(h:WtsI w lo hi v l)(h1:lo'<=lo)(h2:hi<=hi'):WtsI w lo' hi' v l:=by
 obtain⟨cs,g1,g2,g3⟩:=h.is;exact⟨cs,g1,g2.mono h1 h2,fun i x c hx hc=>(g3 i x c hx hc).mono h1 h2⟩
def Ki(w:World)(lo hi:Nat)(v:Value)(l:List Ve):Prop:=RowI 3 w lo hi v (l.map aI)
def kS(l:List Ch)(i:Nat):List Ch:=l.filter fun x=>x.node==i
def St.lim(s:St)(i:Nat):Nat:=s.ahead[i+1]?.getD s.nodes.length
structure Inv(P:Pb)(has:List UInt8->Ve->Bool)(most:Nat)(s:St):Prop where
 n0:s.nodes[0]? =some nd0
 nm:s.nodes.length<=most
 bd:s.bound.length=s.k
 ah:∀(i a:Nat),s.ahead[i]? =some a->i<a/\a<=s.nodes.length
 am:∀(i j a b:Nat),i<=j->s.ahead[i]? =some a->s.ahead[j]? =some b->a<=b
 plain:∀x∈s.nodes,x.edges=[]
 diff:Oo s.nodes
 ok:∀(j:Nat) x,1<=j->s.nodes[j]? =some x->bM (·.name) x.ctx/\x.name≠[]/\has x.name x.v=true/\∀q∈x.ctx,q.name≠[]
 src:∀j,1<=j->j<s.nodes.length->∃(i a:Nat) (es:List Eg) (e:Eg),s.ahead[i]? =some a/\a<=j/\s.bound[i]? =some es/\e∈es/\e.dst=(j:Int)
 bnd:∀(i:Nat) es x,s.bound[i]? =some es->s.nodes[i]? =some x->∃env,Bnded P s.nodes (s.lim i) i x es env
 st:s.stack.Pairwise fun x y=>x.node<=y.node
 sk:∀x∈s.stack,x.node<=s.k
 gr:∀(i t:Nat) x,(kS s.stack i)[t]? =some x->∃nd w,s.nodes[i]? =some nd/\(P.own i nd)[t]? =some w/\kL P i nd.ctx w x
def St.full(P:Pb)(s:St)(i:Nat):Prop:=∀nd,s.nodes[i]? =some nd->(kS s.stack i).length=(P.own i nd).length
theorem vM:∀(l:List Ch) (k:Nat),l.Pairwise (fun x y=>x.node<=y.node)->(∀x∈l,x.node<=k)->l.drop (l.takeWhile fun x=>x.node !=k).length=kS l k
 | [],k,_,_=>rfl
 | x::r,k,h,hk=>by
  obtain⟨h1,h2⟩:=List.pairwise_cons.1 h;by_cases hx:x.node=k
  ·have:(x::r).takeWhile (fun x=>x.node !=k)=[]:=by rw[List.takeWhile_cons_of_neg (by simp[hx])]
   rw[this,lN,List.drop_zero];unfold kS;symm;rw[List.filter_eq_self];intro y hy;rcases List.mem_cons.1 hy with rfl | hy'
   ·simpa using hx
   ·have:=h1 y hy';have:=hk y hy;simp only[beq_iff_eq];omega
  ·rw[List.takeWhile_cons_of_pos (by simpa using hx),lC,List.drop_succ_cons,vM r k h2 fun y hy=>hk y (mC _ hy)];unfold kS;rw[List.filter_cons_of_neg (by simpa using hx)]
theorem Inv.mine{P:Pb}{has:List UInt8->Ve->Bool}{most:Nat}{s:St}(h:Inv P has most s):s.mine=kS s.stack s.k:=vM _ _ h.st h.sk
theorem dM(l:List Ch)(x:Ch)(i:Nat):kS (l++[x]) i=kS l i++if x.node=i then [x]else []:=by
 unfold kS;rw[List.filter_append];congr 1;by_cases h:x.node=i
 ·rw[if_pos h,List.filter_cons_of_pos (by simpa using h)];rfl
 ·rw[if_neg h,List.filter_cons_of_neg (by simpa using h)];rfl
theorem Ms{pre:List Ch}{x:Ch}{i t:Nat}{y:Ch}(h:(kS (pre++[{x with pos:=x.pos+1}]) i)[t]? =some y):∃y0,(kS (pre++[x]) i)[t]? =some y0/\ {y with pos:=0}= {y0 with pos:=0}:=by
 rw[dM]at h |-;by_cases hl:t<(kS pre i).length
 ·rw[gL hl]at h |-;exact⟨y,h,rfl⟩
 ·rw[List.getElem?_append_right (by omega)]at h |-;by_cases hx:x.node=i
  ·rw[if_pos hx]at h |-;cases hm:t-(kS pre i).length with
   | zero=>
    rw[hm]at h;simp only[gZ,iS]at h;subst h;exact⟨x,rfl,rfl⟩
   | succ m=>rw[hm]at h;simp at h
  ·rw[if_neg hx]at h;simp at h
theorem Qg(pre:List Ch)(x:Ch)(i:Nat):(kS (pre++[{x with pos:=x.pos+1}]) i).length=(kS (pre++[x]) i).length:=by
 rw[dM,dM,lA,lA];by_cases hx:x.node=i
 ·rw[if_pos hx,if_pos hx];rfl
 ·rw[if_neg hx,if_neg hx]
theorem getElem?_take_some{α:Type}{l:List α}{n i:Nat}{x:α}(h:(l.take n)[i]? =some x):i<n/\l[i]? =some x:=by
 have hi:=(gS h).1;rw[List.length_take]at hi;rw[List.getElem?_take_of_lt (by omega)]at h;exact⟨by omega,h⟩
theorem iT{α:Type}{l:List α}{n i:Nat}{x:α}(hi:i<n)(h:l[i]? =some x):(l.take n)[i]? =some x:=by
 rw[List.getElem?_take_of_lt hi];exact h
theorem Inv.again{P:Pb}{has:List UInt8->Ve->Bool}{most:Nat}{s:St}(h:Inv P has most s){pre:List Ch}{x:Ch}(hs:s.stack=pre++[x]):Inv P has most (s.again pre x):=by
 have hst:=h.st;rw[hs,List.pairwise_append]at hst;have hle:∀y∈pre,y.node<=x.node:=fun y hy=>hst.2.2 y hy x (by simp);have hst':(pre++[{x with pos:=x.pos+1}]).Pairwise (fun x y:Ch=>x.node<=y.node):=by
  rw[List.pairwise_append];exact⟨hst.1,List.pairwise_singleton _ _,fun a ha b hb=>by
   simp only[mI]at hb;subst hb;exact hle a ha⟩
 have hgr:∀(i t:Nat) y,(kS (pre++[{x with pos:=x.pos+1}]) i)[t]? =some y->∃nd w,s.nodes[i]? =some nd/\(P.own i nd)[t]? =some w/\kL P i nd.ctx w y:=fun i t y hy=>by
  obtain⟨y0,h0,he⟩:=Ms hy;rw[<-hs]at h0;obtain⟨nd,w,h1,h2,h3⟩:=h.gr i t y0 h0;exact⟨nd,w,h1,h2,by unfold kL at h3 |-;rw[he];exact h3⟩
 unfold St.again;split
 ·rename_i hk
  obtain⟨a,ha⟩:∃a,s.ahead[x.node]? =some a:=⟨_,gE hk⟩;rw[ha];show Inv P has most ⟨_,s.nodes.take a,s.ahead.take x.node,s.bound.take x.node⟩;have hax:=h.ah x.node a ha;have hal:(s.ahead.take x.node).length=x.node:=by rw[List.length_take];unfold St.k at hk;omega
  have hnl:(s.nodes.take a).length=a:=by rw[List.length_take];omega
  refine⟨iT (by omega) h.n0,by show(s.nodes.take a).length<=_;have:=h.nm;omega,?_,?_,?_,?_,?_,?_,?_,?_,hst',?_,?_⟩
  ·show(s.bound.take x.node).length=(s.ahead.take x.node).length;rw[hal,List.length_take,h.bd];omega
  ·intro i b hb;obtain⟨hi,hb⟩:=getElem?_take_some hb;refine⟨(h.ah i b hb).1,?_⟩;show b<=(s.nodes.take a).length;rw[hnl];exact h.am i x.node b a (by omega) hb ha
  ·intro i j b c hij hb hc;exact h.am i j b c hij (getElem?_take_some hb).2 (getElem?_take_some hc).2
  ·exact fun y hy=>h.plain y (List.mem_of_mem_take hy)
  ·exact List.Pairwise.sublist (List.take_sublist _ _) h.diff
  ·exact fun j y hj hy=>h.ok j y hj (getElem?_take_some hy).2
  ·intro j h1 h2;have h2':j<a:=by rw[<-hnl];exact h2
   obtain⟨i,b,es,e,hb,hbj,hes,he,hd⟩:=h.src j h1 (by omega);have hi:i<x.node:=by
    refine Decidable.byContradiction fun hn=>?_;have:=h.am x.node i a b (by omega) ha hb;omega
   exact⟨i,b,es,e,iT hi hb,hbj,iT hi hes,he,hd⟩
  ·intro i es y hes hy;obtain⟨hi,hes⟩:=getElem?_take_some hes;obtain⟨env,hb⟩:=h.bnd i es y hes (getElem?_take_some hy).2;refine⟨env,hb.more ?_ ?_⟩
   ·unfold St.lim;show(s.ahead[i+1]?).getD _<=((s.ahead.take x.node)[i+1]?).getD (s.nodes.take a).length;by_cases hi2:i+1<x.node
    ·rw[List.getElem?_take_of_lt hi2];obtain⟨b,hb⟩:∃b,s.ahead[i+1]? =some b:=⟨_,gE (by unfold St.k at hk;omega)⟩;rw[hb];exact nL
    ·have e:i+1=x.node:=by omega
     rw[e,ha,List.getElem?_eq_none (by omega),hnl];exact nL
   ·intro j z hj hz;refine iT ?_ hz;have hl:s.lim i<=a:=by
     unfold St.lim;obtain⟨b,hb⟩:∃b,s.ahead[i+1]? =some b:=⟨_,gE (by unfold St.k at hk;omega)⟩;rw[hb];exact h.am (i+1) x.node b a (by omega) hb ha
    omega
  ·intro y hy;show y.node<=(s.ahead.take x.node).length;rw[hal];rcases List.mem_append.1 hy with hy | hy
   ·exact hle y hy
   ·simp only[mI]at hy;subst hy;exact nL
  ·intro i t y hy;obtain⟨nd,w,h1,h2,h3⟩:=hgr i t y hy;have hm:=mG hy;have hyn:y.node=i/\y∈pre++[{x with pos:=x.pos+1}]:=by
    unfold kS at hm;rw[List.mem_filter]at hm;exact⟨by simpa using hm.2,hm.1⟩
   have hix:i<=x.node:=by
    rw[<-hyn.1];rcases List.mem_append.1 hyn.2 with hy | hy
    ·exact hle y hy
    ·simp only[mI]at hy;subst hy;exact nL
   exact⟨nd,w,iT (by omega) h1,h2,h3⟩
 ·rename_i hk
  refine⟨h.n0,h.nm,h.bd,h.ah,h.am,h.plain,h.diff,h.ok,h.src,h.bnd,hst',?_,hgr⟩;intro y hy;show y.node<=s.k;have hx:=h.sk x (by rw[hs];simp);rcases List.mem_append.1 hy with hy | hy
  ·have:=hle y hy;omega
  ·simp only[mI]at hy;subst hy;exact hx
theorem Inv.pop{P:Pb}{has:List UInt8->Ve->Bool}{most:Nat}{s:St}(h:Inv P has most s){pre:List Ch}{x:Ch}(hs:s.stack=pre++[x]):Inv P has most {s with stack:=pre}:=by
 have hst:=h.st;rw[hs,List.pairwise_append]at hst;refine⟨h.n0,h.nm,h.bd,h.ah,h.am,h.plain,h.diff,h.ok,h.src,h.bnd,hst.1,fun y hy=>h.sk y (by rw[hs];exact List.mem_append_left _ hy),fun i t y hy=>?_⟩;refine h.gr i t y ?_;rw[hs,dM,gL (gS hy).1];exact hy
theorem Inv.push{P:Pb}{has:List UInt8->Ve->Bool}{most:Nat}{s:St}(h:Inv P has most s)(hk:s.k<s.nodes.length){w:Wt}(hw:(s.wants P)[s.mine.length]? =some w):Inv P has most (s.push P w):=by
 have hcur:s.nodes[s.k]? =some s.cur:=by unfold St.cur;rw[gE hk];rfl
 obtain⟨c1,c2,c3⟩:=bV P s.k s.cur.ctx w;refine⟨h.n0,h.nm,h.bd,h.ah,h.am,h.plain,h.diff,h.ok,h.src,h.bnd,?_,?_,?_⟩
 ·show(s.stack++[_]).Pairwise _;rw[List.pairwise_append];refine⟨h.st,List.pairwise_singleton _ _,fun a ha b hb=>?_⟩;simp only[mI]at hb;subst hb;rw[c1];exact h.sk a ha
 ·intro y hy;rcases List.mem_append.1 hy with hy | hy
  ·exact h.sk y hy
  ·simp only[mI]at hy;subst hy;rw[c1];exact nL
 ·intro i t y hy;have hy':(kS (s.stack++[aK P s.k s.cur.ctx w]) i)[t]? =some y:=hy;rw[dM,c1]at hy';by_cases hl:t<(kS s.stack i).length
  ·rw[gL hl]at hy';exact h.gr i t y hy'
  ·rw[List.getElem?_append_right (by omega)]at hy';by_cases hi:s.k=i
   ·rw[if_pos hi]at hy';cases hm:t-(kS s.stack i).length with
    | succ m=>rw[hm]at hy';simp at hy'
    | zero=>
     rw[hm]at hy';simp only[gZ,iS]at hy';subst hy';subst hi;rw[h.mine]at hw;have ht:t=(kS s.stack s.k).length:=by omega
     refine⟨s.cur,w,hcur,by rw[ht];exact hw,?_⟩;unfold kL;have:({aK P s.k s.cur.ctx w with pos:=0}:Ch)=aK P s.k s.cur.ctx w:=by
      have e:(aK P s.k s.cur.ctx w)=⟨(aK P s.k s.cur.ctx w).node,(aK P s.k s.cur.ctx w).name,(aK P s.k s.cur.ctx w).vs,(aK P s.k s.cur.ctx w).none,(aK P s.k s.cur.ctx w).pos⟩:=rfl;rw[c3]at e;exact e.symm
     exact this
   ·rw[if_neg hi]at hy';simp at hy'
theorem getElem?_snoc{α:Type}{l:List α}{x y:α}{i:Nat}(h:(l++[x])[i]? =some y):(i<l.length/\l[i]? =some y)\/(i=l.length/\y=x):=by
 by_cases hi:i<l.length
 ·rw[gL hi]at h;exact Or.inl ⟨hi,h⟩
 ·have hl:=(gS h).1;rw[lA,List.length_singleton]at hl;have e:i=l.length:=by omega
  rw[e,List.getElem?_append_right nL,Nat.sub_self]at h;simp only[gZ,iS]at h;exact Or.inr ⟨e,h.symm⟩
theorem Inv.bind{P:Pb}{has:List UInt8->Ve->Bool}(F:P.Fits has){most:Nat}{s:St}(h:Inv P has most s)(hk:s.k<s.nodes.length)(hf:(s.wants P).length<=s.mine.length)(hp:∀x∈s.stack,x.pos<x.many)
 {nodes:List Nd}{es:List Eg}(hb:dD P most s.cur.ctx s.mine s.nodes=.ok nodes es):Inv P has most (s.bind nodes es)/\s.full P s.k/\∀(j:Nat) z,s.nodes[j]? =some z->nodes[j]? =some z:=by
 have hcur:s.nodes[s.k]? =some s.cur:=by unfold St.cur;rw[gE hk];rfl
 rw[h.mine]at hf hb;have hgl:(kS s.stack s.k).length=(P.own s.k s.cur).length:=by
  refine Nat.le_antisymm ?_ hf;refine Decidable.byContradiction fun hn=>?_;obtain⟨nd,w,h1,h2,_⟩:=h.gr s.k (P.own s.k s.cur).length _ (gE (by omega));rw[hcur]at h1;cases h1;rw[List.getElem?_eq_none nL]at h2;exact absurd h2 (by simp)
 have hctx:(s.cur.ctx.map (·.name)).Nodup:=by
  by_cases h0:s.k=0
  ·have e:=h.n0;rw[<-h0,hcur]at e;rw[Option.some.inj e];exact List.nodup_nil
  ·exact aX _ (h.ok s.k _ (by omega) hcur).1
 obtain⟨g1,g2,g3,g4,g5⟩:=Nf F (i:=s.k) (nd:=s.cur) (chs:=kS s.stack s.k) hctx hgl (fun t x hx=>by
  obtain⟨nd,w,h1,h2,h3⟩:=h.gr s.k t x hx;rw[hcur]at h1;cases h1;exact⟨w,h2,h3⟩) (fun x hx=>hp x (by unfold kS at hx;exact(List.mem_filter.1 hx).1))
 unfold dD at hb;split at hb
 ·cases hb
 ·rename_i ts hts
  split at hb
  ·cases hb
  ·rename_i y hy
   obtain⟨rfl,rfl⟩:=pI hb;obtain⟨t1,t2⟩:=iL hts;have hte:∀x∈ts,x.edges=[]:=fun x hx=>by
    obtain⟨t,ht,rfl⟩:=eI.1 hx;obtain⟨c,hc,_⟩:=t2 t _ (gE (by omega));rw[gE ht]at hc;rw[Option.some.inj hc]
   obtain⟨more,m1,m2,m3,m4,m5,m6⟩:=nT ts s.nodes y hte hy h.diff;have hlen:=qI ts s.nodes y hy;have hold:∀(j:Nat) z,s.nodes[j]? =some z->y.1[j]? =some z:=fun j z hz=>by
    rw[m1,gL (gS hz).1];exact hz
   -- what a target is
   have htok:∀x∈ts,∃p∈fM s.cur.ctx (kS s.stack s.k),x.name=p.name/\x.v=p.v/\P.ctxOf (fM s.cur.ctx (kS s.stack s.k)) p=some x.ctx:=fun x hx=>by
    obtain⟨t,ht,rfl⟩:=eI.1 hx;obtain⟨c,hc,hcc⟩:=t2 t _ (gE (by omega));rw[gE ht]at hc;have hc':=Option.some.inj hc;rw[hc'];exact⟨_,List.getElem_mem (by omega),rfl,rfl,hcc⟩
   have hpn:∀p∈fM s.cur.ctx (kS s.stack s.k),p.name≠[]:=fun p hpe=>by
    rcases g3 p hpe with⟨w,hw,hwn⟩ | ⟨q,hq,hqn⟩
    ·rw[<-hwn];exact(F.own_name _ _ w hw).1
    ·rw[<-hqn];by_cases h0:s.k=0
     ·have e:=h.n0;rw[<-h0,hcur]at e;rw[Option.some.inj e]at hq;exact absurd hq (by simp[nd0])
     ·exact(h.ok s.k _ (by omega) hcur).2.2.2 q hq
   have hk1:s.bound.length=s.k:=h.bd;have hkl:s.ahead.length=s.k:=rfl;refine⟨⟨hold 0 nd0 h.n0,hlen.2 h.nm,?_,?_,?_,?_,m2,?_,?_,?_,h.st,?_,?_⟩,fun nd hnd=>?_,hold⟩
   ·show(s.bound++[y.2]).length=(s.ahead++[s.nodes.length]).length;rw[lA,lA,hk1,hkl];rfl
   ·intro i a ha;show i<a/\a<=y.1.length;rcases getElem?_snoc (l:=s.ahead) ha with⟨_,ha⟩ | ⟨hi,ha⟩
    ·have:=h.ah i a ha;omega
    ·subst ha;omega
   ·intro i j a b hij ha hb;rcases getElem?_snoc (l:=s.ahead) ha with⟨hi,ha⟩ | ⟨hi,ha⟩
    ·rcases getElem?_snoc (l:=s.ahead) hb with⟨_,hb⟩ | ⟨_,hb⟩
     ·exact h.am i j a b hij ha hb
     ·rw[hb];exact(h.ah i a ha).2
    ·rcases getElem?_snoc (l:=s.ahead) hb with⟨hj,_⟩ | ⟨_,hb⟩
     ·omega
     ·omega
   ·intro x hx;have hx':x∈y.1:=hx;rw[m1]at hx';rcases List.mem_append.1 hx' with hx' | hx'
    ·exact h.plain x hx'
    ·exact hte x (m3 x hx')
   ·intro j x hj hx;have hx':y.1[j]? =some x:=hx;by_cases hjn:j<s.nodes.length
    ·rw[m1,gL hjn]at hx';exact h.ok j x hj hx'
    ·rw[m1,List.getElem?_append_right (by omega)]at hx';obtain⟨p,hp1,hp2,hp3,hp4⟩:=htok x (m3 x (mG hx'));obtain⟨c1,c2⟩:=F.ctx_in _ _ _ hp4;exact⟨F.ctx_rises _ _ _ hp4,by rw[hp2];exact hpn p hp1,by rw[hp2,hp3];exact c1,fun q hq=>hpn q (c2 q hq)⟩
   ·intro j h1 h2;have h2':j<y.1.length:=h2;by_cases hjn:j<s.nodes.length
    ·obtain⟨i,a,fs,e,ha,haj,hes,he,hd⟩:=h.src j h1 hjn;exact⟨i,a,fs,e,by show(s.ahead++_)[i]? =_;rw[gL (gS ha).1];exact ha,haj,by show(s.bound++_)[i]? =_;rw[gL (gS hes).1];exact hes,he,hd⟩
    ·obtain⟨e,he,hd⟩:=m6 j (by omega) h2';exact⟨s.k,s.nodes.length,y.2,e,by show(s.ahead++_)[s.k]? =_;rw[List.getElem?_append_right (show s.ahead.length<=s.k from nL),hkl,Nat.sub_self];rfl,by omega,by show(s.bound++_)[s.k]? =_;rw[List.getElem?_append_right (by omega),hk1,Nat.sub_self];rfl,he,hd⟩
   ·intro i fs x hes hx;have hx':y.1[i]? =some x:=hx;rcases getElem?_snoc (l:=s.bound) hes with⟨hi,hes⟩ | ⟨hi,hes2⟩
    ·rw[m1,gL (by omega)]at hx';obtain⟨env,hb⟩:=h.bnd i fs x hes hx';refine⟨env,hb.more ?_ (fun j z _ hz=>hold j z hz)⟩;show(s.ahead[i+1]?).getD s.nodes.length<=((s.ahead++[s.nodes.length])[i+1]?).getD y.1.length;by_cases hi2:i+1<s.k
     ·rw[gL (by omega),gE (by omega)];exact nL
     ·rw[List.getElem?_eq_none (by omega),List.getElem?_append_right (by omega),show i+1-s.ahead.length=0 by omega];exact nL
    ·have hik:i=s.k:=by omega
     subst hik;rw[m1,gL hk,hcur]at hx';cases hx';rw[hes2];refine⟨fM s.cur.ctx (kS s.stack s.k),g5,g4,g1,g2,g3,by rw[m4,t1],fun t p hp'=>?_⟩;obtain⟨c,hc,hcc⟩:=t2 t p hp';obtain⟨j,z,j1,j2,j3⟩:=m5 t _ hc;obtain⟨z1,z2,z3⟩:=same_iff.1 j3;dsimp only at z1 z2 z3;refine⟨j,z,j1,?_,?_,j2,z1.symm,z2.symm,by rw[hcc,z3]⟩
     ·refine Decidable.byContradiction fun hn=>?_;have hj0:j=0:=by omega
      rw[hj0]at j2;have:=hold 0 nd0 h.n0;rw[j2]at this;cases this;exact hpn p (mG hp') z1
     ·have:=(gS j2).1;show j<((s.ahead++[s.nodes.length])[s.k+1]?).getD y.1.length;rw[List.getElem?_eq_none (by simp;omega)];exact this
   ·intro x hx;show x.node<=(s.ahead++[s.nodes.length]).length;have:=h.sk x hx;rw[lA,hkl];omega
   ·intro i t x hx;obtain⟨nd,w,h1,h2,h3⟩:=h.gr i t x hx;exact⟨nd,w,hold i nd h1,h2,h3⟩
   ·rw[hcur]at hnd;cases hnd;exact hgl
end Top
section
namespace Top
theorem nN{α:Type}(f:α->List UInt8):∀ {a b:List α},bM f a->bM f b->(∀x,x∈a↔x∈b)->a=b
 | [],[],_,_,_=>rfl
 | [],y::r,_,_,h=>absurd ((h y).2 List.mem_cons_self) (by simp)
 | x::r,[],_,_,h=>absurd ((h x).1 List.mem_cons_self) (by simp)
 | x::r,y::s,ha,hb,h=>by
  obtain⟨a1,a2⟩:=List.pairwise_cons.1 ha;obtain⟨b1,b2⟩:=List.pairwise_cons.1 hb;have e:x=y:=by
   rcases List.mem_cons.1 ((h x).1 List.mem_cons_self)with e | hx
   ·exact e
   ·rcases List.mem_cons.1 ((h y).2 List.mem_cons_self)with e | hy
    ·exact e.symm
    ·have h1:=a1 y hy;have h2:=b1 x hx;rw[Ka h1]at h2;exact absurd h2 (by simp)
  subst e;rw[nN f a2 b2 fun z=>?_];constructor
  ·intro hz;rcases List.mem_cons.1 ((h z).1 (mC _ hz))with e | hz'
   ·subst e;have:=a1 z hz;rw[WideAt.bytes_irrefl]at this;exact absurd this (by simp)
   ·exact hz'
  ·intro hz;rcases List.mem_cons.1 ((h z).2 (mC _ hz))with e | hz'
   ·subst e;have:=b1 z hz;rw[WideAt.bytes_irrefl]at this;exact absurd this (by simp)
   ·exact hz'
theorem fK{s:St}(hl:s.bound.length=s.nodes.length){i:Nat}{x:Nd}(h:s.graph[i]? =some x):∃nd es,s.nodes[i]? =some nd/\s.bound[i]? =some es/\x= {nd with edges:=es}:=by
 unfold St.graph at h;rw[List.getElem?_zipWith]at h;cases h1:s.nodes[i]? with
 | none=>rw[h1]at h;simp at h
 | some nd=>
  cases h2:s.bound[i]? with
  | none=>rw[h1,h2]at h;simp at h
  | some es=>
   rw[h1,h2]at h;exact⟨nd,es,rfl,rfl,(Option.some.inj h).symm⟩
theorem Bc{s:St}(hl:s.bound.length=s.nodes.length){i:Nat}{nd:Nd}(h:s.nodes[i]? =some nd):∃es,s.bound[i]? =some es/\s.graph[i]? =some {nd with edges:=es}:=by
 have hi:=(gS h).1;refine⟨s.bound[i]'(by omega),gE (by omega),?_⟩;unfold St.graph;rw[List.getElem?_zipWith,h,gE (by omega)]
theorem gJ{s:St}(hl:s.bound.length=s.nodes.length):s.graph.length=s.nodes.length:=by
 unfold St.graph;rw[List.length_zipWith,hl,Nat.min_self]
structure Tied(P:Pb)(g:List Nd)(i:Nat)(x:Nd)(env:List Pn):Prop where
 rises:bM (·.name) env
 ctx:∀p∈x.ctx,p∈env
 must:∀w∈P.own i x,w.kind≠2->∃p∈env,p.name=w.name
 inR:∀w∈P.own i x,∀p∈env,p.name=w.name->P.inR w.rg p.v=true
 named:∀p∈env,(∃w∈P.own i x,w.name=p.name)\/∃q∈x.ctx,q.name=p.name
 len:x.edges.length=env.length
 edge:∀(t:Nat) (p:Pn),env[t]? =some p->∃(j:Nat) (y:Nd),x.edges[t]? =some (⟨p.name,j⟩:Eg)/\1<=j/\g[j]? =some y/\y.name=p.name/\y.v=p.v/\P.ctxOf env p=some y.ctx
section
variable{P:Pb}{g:List Nd}{i:Nat}{x:Nd}{env:List Pn}
theorem Tied.of_edge(h:Tied P g i x env){e:Eg}(he:e∈x.edges):∃p∈env,∃(j:Nat) (y:Nd),e=⟨p.name,j⟩/\1<=j/\g[j]? =some y/\y.name=p.name/\y.v=p.v/\P.ctxOf env p=some y.ctx:=by
 obtain⟨t,ht,rfl⟩:=eI.1 he;have hte:t<env.length:=by rw[<-h.len];exact ht
 obtain⟨j,y,h1,h2⟩:=h.edge t _ (gE hte);rw[gE ht]at h1;exact⟨_,List.getElem_mem hte,j,y,Option.some.inj h1,h2⟩
theorem Tied.labels(h:Tied P g i x env):x.edges.map (·.label)=env.map (·.name):=by
 apply List.ext_getElem?;intro t;rw[gM,gM];by_cases ht:t<env.length
 ·obtain⟨j,y,h1,_⟩:=h.edge t _ (gE ht);rw[h1,gE ht];rfl
 ·rw[List.getElem?_eq_none (by rw[h.len];omega),List.getElem?_eq_none (by omega)];rfl
theorem Tied.lab(h:Tied P g i x env):bM (·.label) x.edges:=by
 have h1:(x.edges.map (·.label)).Pairwise fun a b=>bytesBefore a b=true:=by
  rw[h.labels,List.pairwise_map];exact h.rises
 rwa[List.pairwise_map]at h1
theorem Tied.to(h:Tied P g i x env){p:Pn}(hp:p∈env):∃y,bE g x.edges p.name=some y/\y.name=p.name/\y.v=p.v/\P.ctxOf env p=some y.ctx:=by
 unfold bE;cases hf:x.edges.find? (fun e=>e.label==p.name)with
 | none=>
  rw[List.find?_eq_none]at hf;obtain⟨t,ht,rfl⟩:=eI.1 hp;obtain⟨j,y,h1,_⟩:=h.edge t _ (gE ht);exact absurd (by simp) (hf _ (mG h1))
 | some e=>
  have he:=List.mem_of_find?_eq_some hf;have hn:e.label=p.name:=by simpa using List.find?_some hf
  obtain⟨q,hq,j,y,rfl,h2,h3,h4,h5,h6⟩:=h.of_edge he;have:q=p:=fH (aX _ h.rises) hq hp hn;subst this;refine⟨y,?_,h4,h5,h6⟩;show g[((j:Nat):Int).toNat]? =some y;rw[Int.toNat_natCast];exact h3
theorem Tied.to_some(h:Tied P g i x env){n:List UInt8}{y:Nd}(hy:bE g x.edges n=some y):∃p∈env,p.name=n/\y.v=p.v:=by
 unfold bE at hy;cases hf:x.edges.find? (fun e=>e.label==n)with
 | none=>rw[hf]at hy;simp at hy
 | some e=>
  rw[hf]at hy;have he:=List.mem_of_find?_eq_some hf;have hn:e.label=n:=by simpa using List.find?_some hf
  obtain⟨q,hq,j,z,rfl,h2,h3,h4,h5,h6⟩:=h.of_edge he;have hy':g[((j:Nat):Int).toNat]? =some y:=hy;rw[Int.toNat_natCast,h3]at hy';cases hy';exact⟨q,hq,hn,h5⟩
theorem Tied.fold(h:Tied P g i x env):∀(es:List Eg) (l:List Pn),(∀e∈es,e∈x.edges)->(∀p∈l,p∈env)->(l.map (·.name)).Nodup->
 ∃l',es.foldl (cZ g) (some l)=some l'/\(∀p∈l',p∈env)/\(l'.map (·.name)).Nodup/\(∀p∈l,p∈l')/\∀e∈es,∃p∈l',p.name=e.label
 | [],l,_,h1,h2=>⟨l,rfl,h1,h2,fun p hp=>hp,fun e he=>absurd he (by simp)⟩
 | e::r,l,hes,h1,h2=>by
  obtain⟨p,hp,j,y,he,h3,h4,h5,h6,h7⟩:=h.of_edge (hes e List.mem_cons_self);have hg:g[e.dst.toNat]? =some y:=by rw[he];show g[((j:Nat):Int).toNat]? =_;rw[Int.toNat_natCast];exact h4
  have hel:e.label=p.name:=by rw[he]
  rw[List.foldl_cons]
  have hstep:cZ g (some l) e=(match told l e.label with
   | none=>some (l++[⟨e.label,y.v⟩])
   | some v=>if v=y.v then some l else none):=by
   unfold cZ;rw[Option.bind_some,hg,Option.bind_some];all_goals (cases told l e.label<;>rfl)
  rw[hstep];cases ht:told l e.label with
  | none=>
   dsimp only;have hpe:(⟨e.label,y.v⟩:Pn)=p:=by rw[hel,h6]
   obtain⟨l',g1,g2,g3,g4,g5⟩:=Tied.fold h r (l++[⟨e.label,y.v⟩]) (fun u hu=>hes u (mC _ hu)) (fun q hq=>by
    rcases List.mem_append.1 hq with hq | hq
    ·exact h1 q hq
    ·simp only[mI]at hq;rw[hq,hpe];exact hp) (by
    rw[List.map_append,List.nodup_append];refine⟨h2,by simp,fun a ha b hb e'=>?_⟩;obtain⟨q,hq,rfl⟩:=List.mem_map.1 ha;simp only[List.map_cons,List.map_nil,mI]at hb;exact told_none ht q hq (by rw[e',hb]))
   refine⟨l',g1,g2,g3,fun q hq=>g4 q (List.mem_append_left _ hq),fun u hu=>?_⟩;rcases List.mem_cons.1 hu with rfl | hu
   ·exact⟨_,g4 _ (List.mem_append_right _ List.mem_cons_self),rfl⟩
   ·exact g5 u hu
  | some v=>
   dsimp only;obtain⟨q,hq,hqn,hqv⟩:=eP ht;have hqp:q=p:=fH (aX _ h.rises) (h1 q hq) hp (by rw[hqn,hel]);rw[if_pos (by rw[<-hqv,hqp,h6])];obtain⟨l',g1,g2,g3,g4,g5⟩:=Tied.fold h r l (fun u hu=>hes u (mC _ hu)) h1 h2;refine⟨l',g1,g2,g3,g4,fun u hu=>?_⟩;rcases List.mem_cons.1 hu with rfl | hu
   ·exact⟨q,g4 q hq,hqn⟩
   ·exact g5 u hu
theorem Tied.environment(h:Tied P g i x env)(hc:(x.ctx.map (·.name)).Nodup):environment g x=some env:=by
 obtain⟨l,h1,h2,h3,h4,h5⟩:=h.fold x.edges x.ctx (fun e he=>he) h.ctx hc;unfold Top.environment;rw[h1,Option.map_some];congr 1;refine nN (·.name) (fB _ h3) h.rises fun p=>?_;rw[show p∈fQ l↔p∈l from(bW _ l).mem_iff];refine⟨h2 p,fun hp=>?_⟩;obtain⟨t,ht,rfl⟩:=eI.1 hp;obtain⟨j,y,e1,_⟩:=h.edge t _ (gE ht);obtain⟨q,hq,hqn⟩:=h5 _ (mG e1);have:q=env[t]:=fH (aX _ h.rises) (h2 q hq) (List.getElem_mem ht) hqn;rw[<-this];exact hq
theorem Tied.sound(h:Tied P g i x env)(hc:(x.ctx.map (·.name)).Nodup)(hk:∀w∈P.own i x,w.kind=1\/w.kind=2):Sound P g i x:=by
 refine⟨fun w hw=>?_,fun p hp=>?_,env,h.environment hc,fun e he=>?_⟩
 ·cases hy:bE g x.edges w.name with
  | none=>
   dsimp only;intro hk1;obtain⟨p,hp,hpn⟩:=h.must w hw (by rw[hk1];decide);obtain⟨y,h1,_⟩:=h.to hp;rw[hpn,hy]at h1;exact absurd h1 (by simp)
  | some y=>
   dsimp only;obtain⟨p,hp,hpn,hv⟩:=h.to_some hy;rw[hv];exact h.inR w hw p hp hpn
 ·obtain⟨y,h1,h2,h3,_⟩:=h.to (h.ctx p hp);exact⟨y,h1,h3⟩
 ·obtain⟨p,hp,j,y,rfl,h2,h3,h4,h5,h6⟩:=h.of_edge he;refine⟨y,by show g[((j:Nat):Int).toNat]? =some y;rw[Int.toNat_natCast];exact h3,?_,?_⟩
  ·rcases h.named p hp with⟨w,hw,hwn⟩ | ⟨q,hq,hqn⟩
   ·exact Or.inl ⟨w,hw,hwn⟩
   ·exact Or.inr ⟨q,hq,hqn⟩
  ·rw[h4,h5];exact h6
end
theorem Inv.checks{P:Pb}{has:List UInt8->Ve->Bool}(F:P.Fits has){most:Nat}(hm:most<=128){s:St}(h:Inv P has most s)(hk:s.k=s.nodes.length):Checks P has s.graph:=by
 have hl:s.bound.length=s.nodes.length:=by rw[h.bd,hk]
 have h0:0<s.nodes.length:=(gS h.n0).1;have tied:∀(i:Nat) x,s.graph[i]? =some x->∃env,Tied P s.graph i x env:=fun i x hx=>by
  obtain⟨nd,es,h1,h2,rfl⟩:=fK hl hx;obtain⟨env,hb⟩:=h.bnd i es nd h2 h1;refine⟨env,hb.rises,hb.ctx,?_,?_,?_,hb.len,fun t p hp=>?_⟩
  ·rw[F.own_eq];exact hb.must
  ·rw[F.own_eq];exact hb.inR
  ·rw[F.own_eq];exact hb.named
  ·obtain⟨j,y,e1,e2,e3,e4,e5,e6,e7⟩:=hb.edge t p hp;obtain⟨fs,_,f2⟩:=Bc hl e4;exact⟨j,_,e1,e2,f2,e5,e6,e7⟩
 have ctxok:∀(i:Nat) x,s.graph[i]? =some x->bM (·.name) x.ctx:=fun i x hx=>by
  obtain⟨nd,es,h1,h2,rfl⟩:=fK hl hx;cases i with
  | zero=>
   rw[h.n0]at h1;cases h1;exact List.Pairwise.nil
  | succ i=>exact(h.ok (i+1) nd (by omega) h1).1
 refine⟨⟨by rw[gJ hl];omega,by rw[gJ hl];have:=h.nm;omega,fun x hx=>?_,ctxok,fun i j x y hij hx hy=>?_,fun i x hx=>?_,fun i x e hx he=>?_,?_⟩,fun i x hx hi=>?_,fun i x hx=>?_⟩
 ·obtain⟨nd,es,h1,h2,rfl⟩:=fK hl hx;rw[h.n0]at h1;cases h1;exact⟨rfl,rfl,rfl⟩
 ·obtain⟨nd,es,h1,h2,rfl⟩:=fK hl hx;obtain⟨nd',es',h1',h2',rfl⟩:=fK hl hy;have hd:=List.pairwise_iff_getElem.1 h.diff j i (gS h1').1 (gS h1).1 hij;rw[(gS h1').2,(gS h1).2]at hd;cases hs:bO {nd with edges:=es} {nd' with edges:=es'}
  ·rfl
  ·have:=same_iff.1 hs;have hh:bO nd' nd=true:=same_iff.2 ⟨this.1.symm,this.2.1.symm,this.2.2.symm⟩;rw[hh]at hd;exact absurd hd (by simp)
 ·obtain⟨env,ht⟩:=tied i x hx;exact ht.lab
 ·obtain⟨env,ht⟩:=tied i x hx;obtain⟨p,hp,j,y,rfl,h2,h3,h4,h5,h6⟩:=ht.of_edge he;exact⟨j,y,rfl,h2,h3,h4⟩
 ·intro j;induction j using Nat.strongRecOn with
  | ind j ih=>
   intro hj;by_cases hj0:j=0
   ·subst hj0;exact .root
   ·obtain⟨i,a,es,e,h1,h2,h3,h4,h5⟩:=h.src j (by omega) (by rw[gJ hl]at hj;exact hj);have hia:=(h.ah i a h1).1;have hin:i<s.nodes.length:=by rw[<-hl];exact(gS h3).1
    obtain⟨fs,f1,f2⟩:=Bc hl (gE hin);rw[h3]at f1;cases f1;exact .on i j _ e (ih i (by omega) (by rw[gJ hl];exact hin)) f2 h4 h5 hj
 ·obtain⟨nd,es,h1,h2,rfl⟩:=fK hl hx;exact(h.ok i nd hi h1).2.2.1
 ·obtain⟨env,ht⟩:=tied i x hx;refine ht.sound (aX _ (ctxok i x hx)) fun w hw=>(F.own_name i x w hw).2
def nE(P:Pb)(pt:Pt)(s:St):Prop:=s.k<s.nodes.length/\match pt with
 | .next=>(∀i,i<s.k->s.full P i)/\∀x∈s.stack,x.pos<x.many
 | .try'=>(∀i,i<s.k->s.full P i)/\∀pre x,s.stack=pre++[x]->x.node=s.k/\∀y∈pre,y.pos<y.many
 | .back=>(∀y∈s.stack,∀i,i<y.node->s.full P i)/\∀x∈s.stack,x.pos<x.many
theorem qY{P:Pb}{has:List UInt8->Ve->Bool}{most:Nat}{s:St}(h:Inv P has most s){pre:List Ch}{x:Ch}(hs:s.stack=pre++[x]):(s.again pre x).k=x.node:=by
 have hx:=h.sk x (by rw[hs];simp);unfold St.again;split
 ·rename_i hk
  show(s.ahead.take x.node).length=x.node;rw[List.length_take];unfold St.k at hk;omega
 ·show s.k=x.node;omega
theorem eO(s:St)(pre:List Ch)(x:Ch):(s.again pre x).stack=pre++[{x with pos:=x.pos+1}]:=by unfold St.again;split<;>rfl
theorem Et{s:St}{pre:List Ch}{x:Ch}{i:Nat}{nd:Nd}(h:(s.again pre x).nodes[i]? =some nd):s.nodes[i]? =some nd:=by
 unfold St.again at h;split at h
 ·exact(getElem?_take_some h).2
 ·exact h
theorem nE.again{P:Pb}{has:List UInt8->Ve->Bool}{most:Nat}{s:St}(h:Inv P has most s)(ha:nE P .back s){pre:List Ch}{x:Ch}(hs:s.stack=pre++[x]):nE P .try' (s.again pre x):=by
 obtain⟨h1,h2,h3⟩:=ha;have hk:=qY h hs;refine⟨?_,fun i hi nd hnd=>?_,fun pre' x' he=>?_⟩
 ·rw[hk];have hx:=h.sk x (by rw[hs];simp);unfold St.again;split
  ·rename_i hlt
   obtain⟨a,ha⟩:∃a,s.ahead[x.node]? =some a:=⟨_,gE hlt⟩;rw[ha];show x.node<(s.nodes.take a).length;have:=h.ah _ _ ha;rw[List.length_take];omega
  ·show x.node<s.nodes.length;omega
 ·rw[hk]at hi;have:=h2 x (by rw[hs];simp) i hi nd (Et hnd);rw[eO,Qg,<-hs];exact this
 ·rw[eO]at he;obtain⟨rfl,rfl⟩:=cK he;exact⟨by rw[hk],fun y hy=>h3 y (by rw[hs];exact List.mem_append_left _ hy)⟩
theorem Ends.solved{P:Pb}{has:List UInt8->Ve->Bool}(F:P.Fits has){lim most:Nat}(hm:most<=128){pt:Pt}{s:St}{d:Nat}{r:Res}(h:Ends P lim most pt s d r):Inv P has most s->nE P pt s->∀g n,r=.ok g n->Checks P has g/\g.length<=most:=by
 induction h with
 | push s d r w hw h ih=>
  intro hI ⟨hk,hf,hp⟩;have hlt:=(gS hw).1;refine ih (hI.push hk hw) ⟨hk,fun i hi nd hnd=>?_,fun pre x hx=>?_⟩
  ·have hik:i<s.k:=hi;show(kS (s.stack++[aK P s.k s.cur.ctx w]) i).length=_;rw[dM,(bV P s.k s.cur.ctx w).1,if_neg (by omega),List.append_nil];exact hf i hik nd hnd
  ·obtain⟨rfl,rfl⟩:=cK hx;exact⟨(bV P s.k s.cur.ctx w).1,hp⟩
 | bad s d r hl hb h ih=>
  intro hI ⟨hk,hf,hp⟩;exact ih hI ⟨hk,fun y hy i hi=>hf i (by have:=hI.sk y hy;omega),hp⟩
 | many s d hl hb=>intro _ _ g n e;cases e
 | done s d nodes es hl hb hkn=>
  intro hI ⟨hk,hf,hp⟩ g n e;cases e;obtain⟨hI',_,_⟩:=hI.bind F hk hl hp hb;have hk':(s.bind nodes es).k=(s.bind nodes es).nodes.length:=by
   show(s.ahead++[s.nodes.length]).length=nodes.length;rw[lA,List.length_singleton];exact hkn
  refine⟨hI'.checks F hm hk',?_⟩;rw[gJ (by rw[hI'.bd,hk'])];exact hI'.nm
 | on s d r nodes es hl hb hkn h ih=>
  intro hI ⟨hk,hf,hp⟩;obtain⟨hI',hfull,hold⟩:=hI.bind F hk hl hp hb;have hlen:=(mY hb).1;have hk1:(s.bind nodes es).k=s.k+1:=by
   show(s.ahead++[s.nodes.length]).length=_;rw[lA,List.length_singleton];rfl
  refine ih hI' ⟨?_,fun i hi nd hnd=>?_,hp⟩
  ·rw[hk1];show s.k+1<nodes.length;omega
  ·rw[hk1]at hi;have hin:i<s.nodes.length:=by omega
   have hnd':nodes[i]? =some nd:=hnd;rw[hold i _ (gE hin)]at hnd';by_cases hik:i<s.k
   ·exact hf i hik nd (by rw[gE hin];exact hnd')
   ·have:i=s.k:=by omega
    subst this;exact hfull nd (by rw[gE hin];exact hnd')
 | budget s pre x hs hx=>intro _ _ g n e;cases e
 | take s d r pre x hs hx hd h ih=>
  intro hI ⟨hk,hf,hp⟩;refine ih hI ⟨hk,hf,fun y hy=>?_⟩;rw[hs]at hy;rcases List.mem_append.1 hy with hy | hy
  ·exact(hp pre x hs).2 y hy
  ·simp only[mI]at hy;subst hy;exact hx
 | pop s d r pre x hs hx h ih=>
  intro hI ⟨hk,hf,hp⟩;obtain⟨p1,p2⟩:=hp pre x hs;refine ih (hI.pop hs) ⟨hk,fun y hy i hi nd hnd=>?_,p2⟩;have hyk:=hI.sk y (by rw[hs];exact List.mem_append_left _ hy);have:=hf i (by omega) nd hnd;rw[hs,dM,if_neg (by omega),List.append_nil]at this;exact this
 | unsat s d hs=>intro _ _ g n e;cases e
 | back s d r pre x hs h ih=>
  intro hI ha;exact ih (hI.again hs) (nE.again hI ha hs)
def St.start:St:=⟨[],[nd0],[],[]⟩
theorem Inv.start(P:Pb)(has:List UInt8->Ve->Bool){most:Nat}(hm:1<=most):Inv P has most St.start:=by
 refine⟨rfl,hm,rfl,fun i a h=>by simp[St.start]at h,fun i j a b _ h=>by simp[St.start]at h,fun x hx=>?_,List.pairwise_singleton _ _,fun j x hj hx=>?_,fun j h1 h2=>?_,fun i es x h=>by simp[St.start]at h,List.Pairwise.nil,fun x hx=>by simp[St.start]at hx,fun i t x h=>by simp[St.start,kS]at h⟩
 ·simp only[St.start,mI]at hx;rw[hx];rfl
 ·have:=(gS hx).1;simp[St.start]at this;omega
 ·simp[St.start]at h2;omega
theorem nE.start(P:Pb):nE P .next St.start:=⟨by decide,fun i hi=>absurd hi (by simp[St.k,St.start]),fun x hx=>by simp[St.start]at hx⟩
end Top
end
section
open Go.RowKit Go.Sort
open Top
theorem eG{α:Type}[Inhabited α]{enc:α->List Value}{k:Nat}(hk:∀x,(enc x).length=k)(k0:0<k):∀(ds:List α) (t:Nat),t<ds.length*k->(ds.flatMap enc)[t]? =(enc ds[t/k]!)[t%k]?
 | [],t,h=>by simp at h
 | x::r,t,h=>by
  rw[List.flatMap_cons,List.getElem?_append,hk];by_cases ht:t<k
  ·rw[if_pos ht,Nat.div_eq_of_lt ht,Nat.mod_eq_of_lt ht];rfl
  ·rw[if_neg ht];have h1:t-k<r.length*k:=by rw[lC,Nat.add_mul,Nat.one_mul]at h;omega
   rw[eG hk k0 r (t-k) h1];obtain⟨u,rfl⟩:∃u,t=u+k:=⟨t-k,by omega⟩;rw[Nat.add_sub_cancel,Nat.add_div_right _ k0,Nat.add_mod_right];rfl
theorem dZ{α:Type}{enc:α->List Value}{k:Nat}(hk:∀x,(enc x).length=k):∀(ds:List α),(ds.flatMap enc).length=ds.length*k
 | []=>by simp
 | x::r=>by rw[List.flatMap_cons,lA,hk,dZ hk r,lC,Nat.add_mul,Nat.one_mul];omega
theorem oW{α:Type}[Inhabited α]{enc:α->List Value}{k:Nat}(hk:∀x,(enc x).length=k)(ds:List α):(flatK enc k ds.toArray).toList=ds.flatMap enc:=by
 rcases Nat.eq_zero_or_pos k with k0 | k0
 ·subst k0;have h1:(flatK enc 0 ds.toArray).toList.length=0:=by simp
  have h2:(ds.flatMap enc).length=0:=by rw[dZ hk];simp
  rw[List.length_eq_zero_iff.1 h1,List.length_eq_zero_iff.1 h2]
 ·apply List.ext_getElem?;intro t;by_cases ht:t<ds.length*k
  ·rw[eG hk k0 ds t ht,Array.getElem?_toList];have hs:t<(flatK enc k ds.toArray).size:=by simpa using ht
   have hg:=get_flatK enc k ds.toArray t (by simpa using ht);rw[getElem!_pos (flatK enc k ds.toArray) t hs]at hg;rw[Array.getElem?_eq_getElem hs,hg];have hm:t%k<(enc ds[t/k]!).length:=by rw[hk];exact Nat.mod_lt _ k0
   have e:ds.toArray[t/k]! =ds[t/k]!:=by simp
   rw[e,gE hm,getElem!_pos (enc ds[t/k]!) (t%k) hm]
  ·rw[List.getElem?_eq_none (by simp;omega),List.getElem?_eq_none (by rw[dZ hk];omega)]
theorem zI{w:World}{g n:Nat}{os:Array Obj}{cur:Array Value}{e:TypeId}{fr:Nat×Nat}(F:Array Value)(hb:w.heap[g]? =some (.cells cur e fr)):
 (grow (putRow (id:Value->Value) (Sort.ahead w n) g 0 F) os).heap[g]? =some (.cells (putCells id 0 F cur) e fr):=by
 have hg:g<w.heap.size:=(Array.getElem?_eq_some_iff.1 hb).1;rw[heap_grow_old _ _ (by simpa using hg)];simp[putRow,mapBlock,Sort.ahead,Array.getElem?_modify,hb,onCells]
theorem iE{w:World}{g n:Nat}{os:Array Obj}(F:Array Value):w.grownBy (grow (putRow id (Sort.ahead w n) g 0 F) os) (some g):=by
 refine⟨rfl,rfl,rfl,by simp,fun k hk hne=>?_⟩;rw[heap_grow_old _ _ (by simpa using hk)];have:g≠k:=fun e=>hne (by rw[e]);simp[putRow,mapBlock,Sort.ahead,Array.getElem?_modify,this]
theorem uM(cur F:Array Value)(h:F.size<=cur.size):(putCells id 0 F cur).toList.take F.size=F.toList:=by
 apply List.ext_getElem?;intro j;by_cases hj:j<F.size
 ·rw[List.getElem?_take_of_lt hj,Array.getElem?_toList];simp[putCells,hj,show j<cur.size by omega]
 ·rw[List.getElem?_take_eq_none (by omega),List.getElem?_eq_none (by simp;omega)]
theorem iV{α:Type}[Inhabited α]{enc:α->List Value}{k:Nat}(hk:∀x,(enc x).length=k){w:World}{base:Nat}{e:TypeId}{v:Value}{ds:List α}(h:w.ownsRow base e k v ds.length (ds.flatMap enc))(hn:0<ds.length):
 ∃g cap,v=.slice (some ⟨g,0,none⟩) ds.length cap/\g<w.heap.size/\base<=g/\HoldsK enc k w g 0 ds.toArray/\
  ∀(d':List α),d'.length=ds.length->∀n os,(sortWorldK enc k w g 0 n d'.toArray os).ownsRow base e k v d'.length (d'.flatMap enc)/\w.grownBy (sortWorldK enc k w g 0 n d'.toArray os) (some g):=by
 have h0:=h.1;have hh:=h;rcases h.2 with⟨rfl,h1⟩ | ⟨g,cap,cur,rfl,hbase,hb,h1,h2,h3,h4⟩
 ·omega
 ·refine⟨g,cap,rfl,(Array.getElem?_eq_some_iff.1 hb).1,hbase,?_,fun d' hd n os=>⟨?_,iE _⟩⟩
  ·intro j hj;have hj':j<ds.length*k:=by simpa using hj
   refine⟨?_,by simp[World.frozen?,hb]⟩;have hc:=hh.cellAt j hj';rw[Nat.zero_add,hc,<-oW hk,Array.getElem?_toList,Array.getElem?_eq_getElem hj,getElem!_pos (flatK enc k ds.toArray) j hj];rfl
  ·refine⟨by rw[dZ hk],.inr ⟨g,cap,_,by rw[hd],hbase,zI _ hb,by omega,h2,by simp[putCells,h3],?_⟩⟩;have hF:(flatK enc k d'.toArray).size=d'.length*k:=by simp
   rw[<-oW hk,<-hF];exact uM _ _ (by rw[hF,h3,hd];exact Nat.mul_le_mul_right _ h1)
theorem lV{α:Type}[Inhabited α](f:α->List UInt8){ds S:List α}{d':Array α}(hp:PermIn 0 ds.length ds.toArray d')(hs:SortedIn (fun x y=>bytesBefore (f x) (f y)) 0 ds.length d')(hS:S.Pairwise fun x y=>bytesBefore (f x) (f y)=true)(hpS:ds.Perm S):d'=S.toArray:=by
 obtain⟨h1,_,h3⟩:=hp;have hsz:d'.size=ds.length:=by rw[h1];simp
 have hperm:d'.toList.Perm S:=by
  have:(d'.extract 0 ds.length).toList=d'.toList:=by rw[<-hsz];simp
  rw[this]at h3;have h4:(ds.toArray.extract 0 ds.length).toList=ds:=by simp
  rw[h4]at h3;exact h3.trans hpS
 have hne:d'.toList.Pairwise fun x y=>f x≠f y:=by
  have:=hS.imp (S:=fun x y=>f x≠f y) fun h=>Od h;exact(hperm.pairwise_iff (fun h=>Ne.symm h)).2 this
 have hord:d'.toList.Pairwise fun x y=>bytesBefore (f x) (f y)=true:=by
  rw[List.pairwise_iff_getElem]at hne |-;intro i j hi hj hij;have hi':i<d'.size:=by simpa using hi
  have hj':j<d'.size:=by simpa using hj
  have:=hs i j (Nat.zero_le _) hij (by omega);rw[getElem!_pos d' j hj',getElem!_pos d' i hi']at this;have hn:=hne i j hi hj hij;simp only[Array.getElem_toList]at hn |-;rcases WideAt.bytes_total _ _ hn with h | h
  ·exact h
  ·have h':(fun x y=>bytesBefore (f x) (f y)) d'[j] d'[i]=true:=h;rw[h']at this;exact absurd this (by simp)
 have:=nN f hord hS fun x=>hperm.mem_iff;rw[<-this]
theorem gB:∀(a b:List UInt8),decide (Go.Lib.compareBytes a b<0)=bytesBefore a b
 | [],[]=>by simp[Go.Lib.compareBytes,bytesBefore]
 | [],_::_=>by simp[Go.Lib.compareBytes,bytesBefore]
 | _::_,[]=>by simp[Go.Lib.compareBytes,bytesBefore]
 | a::r,b::s=>by
  have ih:=gB r s;unfold Go.Lib.compareBytes bytesBefore;by_cases h1:a<b
  ·simp[h1]
  ·by_cases h2:b<a
   ·have hne:a≠b:=fun e=>by subst e;exact h1 h2
    simp[h1,h2,hne]
   ·have e:a=b:=UInt8.le_antisymm (UInt8.not_lt.1 h2) (UInt8.not_lt.1 h1);subst e;simp[ih]
theorem kM{α:Type}(f:α->List UInt8):SWO (fun x y:α=>bytesBefore (f x) (f y)) where
 irrefl x:=WideAt.bytes_irrefl _
 trans x y z h1 h2:=WideShapes.bytes_trans _ _ _ h1 h2
 ntrans x y z h1 h2:=by
  cases h:bytesBefore (f x) (f z)
  ·rfl
  ·by_cases e1:f x=f y
   ·rw[e1,h2]at h;exact absurd h (by simp)
   ·rcases WideAt.bytes_total _ _ e1 with hh | hh
    ·rw[hh]at h1;exact absurd h1 (by simp)
    ·have:=WideShapes.bytes_trans _ _ _ hh h;rw[this]at h2;exact absurd h2 (by simp)
end
section
open Go.RowKit Go.Sort
open Top
namespace Top
structure Dv where
 name:List UInt8
 a:Option Addr
 n:Nat
 c:Nat
instance:Inhabited Dv:=⟨⟨[],none,0,0⟩⟩
structure Wv where
 name:List UInt8
 kind:Int
 a:Option Addr
 n:Nat
 c:Nat
instance:Inhabited Wv:=⟨⟨[],0,none,0,0⟩⟩
def bF(x:Dv):List Value:=[sv x.name,.slice x.a x.n x.c]
def tZ(x:Wv):List Value:=[sv x.name,.int .i64 x.kind,.slice x.a x.n x.c]
def wL{α:Type}(f:α->List UInt8)(x y:α):Int:=Go.Lib.compareBytes (f x) (f y)
theorem Rb{α:Type}(f:α->List UInt8):Go.Proofs.ltOf (wL f)=fun x y=>bytesBefore (f x) (f y):=by
 funext x y;exact gB (f x) (f y)
theorem kQ(x:Pn):(aG x).length=4:=rfl
theorem Cu:∀x,∀v∈aG x,v.oneCell'=true:=fun x v hv=>by
 simp[aG]at hv;rcases hv with rfl | rfl | rfl | rfl<;>rfl
theorem Ed(x:Dv):(bF x).length=2:=rfl
theorem Ni:∀x,∀v∈bF x,v.oneCell'=true:=fun x v hv=>by
 simp[bF]at hv;rcases hv with rfl | rfl<;>rfl
theorem Rp:∀x,∀v∈tZ x,v.oneCell'=true:=fun x v hv=>by
 simp[tZ]at hv;rcases hv with rfl | rfl | rfl<;>rfl
theorem oI(x:Ve):(aI x).length=3:=rfl
theorem Kq:∀x,∀v∈aI x,v.oneCell'=true:=fun x v hv=>by
 simp[aI]at hv;rcases hv with rfl | rfl | rfl<;>rfl
end Top
theorem Jz(x y:Pn)(W:World):Calls Tryz.prog 40 #[.agg (aG x).toArray,.agg (aG y).toArray] W fun e w'=>e=.returned (.int .i64 (wL (·.name) x y))/\∃q os',w'=grow (W.drewN q) os':=by
 have hcon:∀W,Calls Tryz.prog 41 #[.string (bs x.name),.string (bs y.name)] W fun e w'=>e=.returned (.int .i64 (wL (·.name) x y))/\w'=W:=fun W=>Tryz.strings_Compare (bs x.name) (bs y.name) W;have HC:=Hd hcon;clear hcon;obtain⟨r,hr⟩:∃r,r=wL (·.name) x y:=⟨_,rfl⟩;rw[<-hr]at HC |-;clear hr;show Calls Tryz.prog 40 #[.agg #[.string (bs x.name),.int .i64 x.v.a,.int .i64 x.v.b,.int .i64 x.v.c],.agg #[.string (bs y.name),.int .i64 y.v.a,.int .i64 y.v.b,.int .i64 y.v.c]] W _;go_enter Tryz.func40,Tryz.ntmps40;go_wp2_with fail;refine(HC.out _).mono ?_;rintro e w1 ⟨rfl,rfl⟩;go_wp2;go_returns;exact⟨rfl,0,_,by rw[alloc_eq_grow,alloc_eq_grow,grow_grow];rfl⟩
theorem Ob:∀args w,(callFunc 40 args).run Tryz.prog w=.ok (.enter 40 args) w:=enters_of Tryz.func40 (by kernel_rfl) rfl
theorem Eo{w:World}{base:Nat}{v:Value}{ds S:List Pn}(h:w.ownsRow base 101 4 v ds.length (ds.flatMap aG))(hp:ds.Perm S)(hS:bM (·.name) S)(hn:ds.length<4611686018427387904):
 Calls Tryz.prog 39 #[v,.func (.func 40) #[] #[]] w fun e w'=>e=.returned (.tuple #[])/\w'.ownsRow base 101 4 v S.length (S.flatMap aG)/\w.grownBy w' v.ownBlock:=by
 rcases Nat.eq_zero_or_pos ds.length with h0 | h0
 ·have e1:ds=[]:=List.length_eq_zero_iff.1 h0;subst e1;have e2:S=[]:=List.nil_perm.1 hp;subst e2;obtain⟨a,c,rfl⟩:=aC h;have hcon:=AnyF.slices_SortFunc_none (P:=Tryz.prog) {Tryz.sortPin with} a c (.func (.func 40) #[] #[]) w;change Calls Tryz.prog 39 _ _ _ at hcon;refine hcon.mono ?_;rintro e w1 ⟨rfl,rfl⟩;exact⟨rfl,h,⟨rfl,rfl,rfl,nL,fun _ _ _=>rfl⟩⟩
 ·obtain⟨g,cap,rfl,hg,hbg,hH,hall⟩:=iV kQ h h0
  have hcon:=AnyQ.slices_SortFunc (P:=Tryz.prog) Tryz.sortPin 4 Tryz.isAgg101 Tryz.sizeOf101 aG kQ Cu (wL (·.name)) (by rw[Rb];exact kM _) 40 #[] g 0 cap ds.toArray w Ob
   (fun m os dk hs x y=>Jz x y _) hH hg (by simpa using hn)
  rw[List.size_toArray,Rb]at hcon;change Calls Tryz.prog 39 _ _ _ at hcon;refine hcon.mono ?_;rintro e w1 ⟨rfl,d',n,os,hp1,hs1,rfl⟩;have hd:=lV (fun d:Pn=>d.name) hp1 hs1 hS hp;subst hd;have hr:=hall S hp.length_eq.symm n os;exact⟨rfl,hr.1,hr.2⟩
theorem Nq(x y:Pn)(W:World):Calls Tryz.prog 95 #[.agg (aG x).toArray,.agg (aG y).toArray] W fun e w'=>e=.returned (.int .i64 (wL (·.name) x y))/\∃q os',w'=grow (W.drewN q) os':=by
 have hcon:∀W,Calls Tryz.prog 41 #[.string (bs x.name),.string (bs y.name)] W fun e w'=>e=.returned (.int .i64 (wL (·.name) x y))/\w'=W:=fun W=>Tryz.strings_Compare (bs x.name) (bs y.name) W;have HC:=Hd hcon;clear hcon;obtain⟨r,hr⟩:∃r,r=wL (·.name) x y:=⟨_,rfl⟩;rw[<-hr]at HC |-;clear hr;show Calls Tryz.prog 95 #[.agg #[.string (bs x.name),.int .i64 x.v.a,.int .i64 x.v.b,.int .i64 x.v.c],.agg #[.string (bs y.name),.int .i64 y.v.a,.int .i64 y.v.b,.int .i64 y.v.c]] W _;go_enter Tryz.func95,Tryz.ntmps95;go_wp2_with fail;refine(HC.out _).mono ?_;rintro e w1 ⟨rfl,rfl⟩;go_wp2;go_returns;exact⟨rfl,0,_,by rw[alloc_eq_grow,alloc_eq_grow,grow_grow];rfl⟩
theorem Qo:∀args w,(callFunc 95 args).run Tryz.prog w=.ok (.enter 95 args) w:=enters_of Tryz.func95 (by kernel_rfl) rfl
theorem Jr{w:World}{base:Nat}{v:Value}{ds S:List Pn}(h:w.ownsRow base 101 4 v ds.length (ds.flatMap aG))(hp:ds.Perm S)(hS:bM (·.name) S)(hn:ds.length<4611686018427387904):
 Calls Tryz.prog 39 #[v,.func (.func 95) #[] #[]] w fun e w'=>e=.returned (.tuple #[])/\w'.ownsRow base 101 4 v S.length (S.flatMap aG)/\w.grownBy w' v.ownBlock:=by
 rcases Nat.eq_zero_or_pos ds.length with h0 | h0
 ·have e1:ds=[]:=List.length_eq_zero_iff.1 h0;subst e1;have e2:S=[]:=List.nil_perm.1 hp;subst e2;obtain⟨a,c,rfl⟩:=aC h;have hcon:=AnyF.slices_SortFunc_none (P:=Tryz.prog) {Tryz.sortPin with} a c (.func (.func 95) #[] #[]) w;change Calls Tryz.prog 39 _ _ _ at hcon;refine hcon.mono ?_;rintro e w1 ⟨rfl,rfl⟩;exact⟨rfl,h,⟨rfl,rfl,rfl,nL,fun _ _ _=>rfl⟩⟩
 ·obtain⟨g,cap,rfl,hg,hbg,hH,hall⟩:=iV kQ h h0
  have hcon:=AnyQ.slices_SortFunc (P:=Tryz.prog) Tryz.sortPin 4 Tryz.isAgg101 Tryz.sizeOf101 aG kQ Cu (wL (·.name)) (by rw[Rb];exact kM _) 95 #[] g 0 cap ds.toArray w Qo
   (fun m os dk hs x y=>Nq x y _) hH hg (by simpa using hn)
  rw[List.size_toArray,Rb]at hcon;change Calls Tryz.prog 39 _ _ _ at hcon;refine hcon.mono ?_;rintro e w1 ⟨rfl,d',n,os,hp1,hs1,rfl⟩;have hd:=lV (fun d:Pn=>d.name) hp1 hs1 hS hp;subst hd;have hr:=hall S hp.length_eq.symm n os;exact⟨rfl,hr.1,hr.2⟩
theorem Ng(x y:Pn)(W:World):Calls Tryz.prog 104 #[.agg (aG x).toArray,.agg (aG y).toArray] W fun e w'=>e=.returned (.int .i64 (wL (·.name) x y))/\∃q os',w'=grow (W.drewN q) os':=by
 have hcon:∀W,Calls Tryz.prog 41 #[.string (bs x.name),.string (bs y.name)] W fun e w'=>e=.returned (.int .i64 (wL (·.name) x y))/\w'=W:=fun W=>Tryz.strings_Compare (bs x.name) (bs y.name) W;have HC:=Hd hcon;clear hcon;obtain⟨r,hr⟩:∃r,r=wL (·.name) x y:=⟨_,rfl⟩;rw[<-hr]at HC |-;clear hr;show Calls Tryz.prog 104 #[.agg #[.string (bs x.name),.int .i64 x.v.a,.int .i64 x.v.b,.int .i64 x.v.c],.agg #[.string (bs y.name),.int .i64 y.v.a,.int .i64 y.v.b,.int .i64 y.v.c]] W _;go_enter Tryz.func104,Tryz.ntmps104;go_wp2_with fail;refine(HC.out _).mono ?_;rintro e w1 ⟨rfl,rfl⟩;go_wp2;go_returns;exact⟨rfl,0,_,by rw[alloc_eq_grow,alloc_eq_grow,grow_grow];rfl⟩
theorem Ql:∀args w,(callFunc 104 args).run Tryz.prog w=.ok (.enter 104 args) w:=enters_of Tryz.func104 (by kernel_rfl) rfl
theorem Ji{w:World}{base:Nat}{v:Value}{ds S:List Pn}(h:w.ownsRow base 101 4 v ds.length (ds.flatMap aG))(hp:ds.Perm S)(hS:bM (·.name) S)(hn:ds.length<4611686018427387904):
 Calls Tryz.prog 39 #[v,.func (.func 104) #[] #[]] w fun e w'=>e=.returned (.tuple #[])/\w'.ownsRow base 101 4 v S.length (S.flatMap aG)/\w.grownBy w' v.ownBlock:=by
 rcases Nat.eq_zero_or_pos ds.length with h0 | h0
 ·have e1:ds=[]:=List.length_eq_zero_iff.1 h0;subst e1;have e2:S=[]:=List.nil_perm.1 hp;subst e2;obtain⟨a,c,rfl⟩:=aC h;have hcon:=AnyF.slices_SortFunc_none (P:=Tryz.prog) {Tryz.sortPin with} a c (.func (.func 104) #[] #[]) w;change Calls Tryz.prog 39 _ _ _ at hcon;refine hcon.mono ?_;rintro e w1 ⟨rfl,rfl⟩;exact⟨rfl,h,⟨rfl,rfl,rfl,nL,fun _ _ _=>rfl⟩⟩
 ·obtain⟨g,cap,rfl,hg,hbg,hH,hall⟩:=iV kQ h h0
  have hcon:=AnyQ.slices_SortFunc (P:=Tryz.prog) Tryz.sortPin 4 Tryz.isAgg101 Tryz.sizeOf101 aG kQ Cu (wL (·.name)) (by rw[Rb];exact kM _) 104 #[] g 0 cap ds.toArray w Ql
   (fun m os dk hs x y=>Ng x y _) hH hg (by simpa using hn)
  rw[List.size_toArray,Rb]at hcon;change Calls Tryz.prog 39 _ _ _ at hcon;refine hcon.mono ?_;rintro e w1 ⟨rfl,d',n,os,hp1,hs1,rfl⟩;have hd:=lV (fun d:Pn=>d.name) hp1 hs1 hS hp;subst hd;have hr:=hall S hp.length_eq.symm n os;exact⟨rfl,hr.1,hr.2⟩
theorem Au(x y:Dv)(W:World):Calls Tryz.prog 68 #[.agg (bF x).toArray,.agg (bF y).toArray] W fun e w'=>e=.returned (.int .i64 (wL (·.name) x y))/\∃q os',w'=grow (W.drewN q) os':=by
 have hcon:∀W,Calls Tryz.prog 41 #[.string (bs x.name),.string (bs y.name)] W fun e w'=>e=.returned (.int .i64 (wL (·.name) x y))/\w'=W:=fun W=>Tryz.strings_Compare (bs x.name) (bs y.name) W;have HC:=Hd hcon;clear hcon;obtain⟨r,hr⟩:∃r,r=wL (·.name) x y:=⟨_,rfl⟩;rw[<-hr]at HC |-;clear hr;show Calls Tryz.prog 68 #[.agg #[.string (bs x.name),.slice x.a x.n x.c],.agg #[.string (bs y.name),.slice y.a y.n y.c]] W _;go_enter Tryz.func68,Tryz.ntmps68;go_wp2_with fail;refine(HC.out _).mono ?_;rintro e w1 ⟨rfl,rfl⟩;go_wp2;go_returns;exact⟨rfl,0,_,by rw[alloc_eq_grow,alloc_eq_grow,grow_grow];rfl⟩
theorem zC:∀args w,(callFunc 68 args).run Tryz.prog w=.ok (.enter 68 args) w:=enters_of Tryz.func68 (by kernel_rfl) rfl
theorem Oi(x y:Wv)(W:World):Calls Tryz.prog 101 #[.agg (tZ x).toArray,.agg (tZ y).toArray] W fun e w'=>e=.returned (.int .i64 (wL (·.name) x y))/\∃q os',w'=grow (W.drewN q) os':=by
 have hcon:∀W,Calls Tryz.prog 41 #[.string (bs x.name),.string (bs y.name)] W fun e w'=>e=.returned (.int .i64 (wL (·.name) x y))/\w'=W:=fun W=>Tryz.strings_Compare (bs x.name) (bs y.name) W;have HC:=Hd hcon;clear hcon;obtain⟨r,hr⟩:∃r,r=wL (·.name) x y:=⟨_,rfl⟩;rw[<-hr]at HC |-;clear hr;show Calls Tryz.prog 101 #[.agg #[.string (bs x.name),.int .i64 x.kind,.slice x.a x.n x.c],.agg #[.string (bs y.name),.int .i64 y.kind,.slice y.a y.n y.c]] W _;go_enter Tryz.func101,Tryz.ntmps101;go_wp2_with fail;refine(HC.out _).mono ?_;rintro e w1 ⟨rfl,rfl⟩;go_wp2;go_returns;exact⟨rfl,0,_,by rw[alloc_eq_grow,alloc_eq_grow,grow_grow];rfl⟩
theorem Qx:∀args w,(callFunc 101 args).run Tryz.prog w=.ok (.enter 101 args) w:=enters_of Tryz.func101 (by kernel_rfl) rfl
end
section
namespace Stab
open Go.Sort
section
variable{α β:Type}[Inhabited α][Inhabited β]{f:α->β}(hf:f default=default)
include hf
theorem gV(d:Array α)(i:Nat):(d.map f)[i]! =f d[i]!:=by
 by_cases hi:i<d.size
 ·rw[getElem!_pos (d.map f) i (by simpa using hi),getElem!_pos d i hi,Array.getElem_map]
 ·rw[getElem!_neg (d.map f) i (by simpa using hi),getElem!_neg d i hi,hf]
theorem uA(d:Array α)(i j:Nat):(swp d i j).map f=swp (d.map f) i j:=by
 unfold swp;rw[gV hf,gV hf];apply Array.ext
 ·simp
 ·intro k h1 h2;rw[Array.getElem_map];have h3:k<d.size:=by simpa using h1
  rw[Array.getElem_setIfInBounds (by simpa using h3),Array.getElem_setIfInBounds h3,Array.getElem_setIfInBounds (by simpa using h3),Array.getElem_setIfInBounds (by simpa using h3),Array.getElem_map];by_cases hj:j=k
  ·rw[if_pos hj,if_pos hj]
  ·rw[if_neg hj,if_neg hj];by_cases hi:i=k
   ·rw[if_pos hi,if_pos hi]
   ·rw[if_neg hi,if_neg hi]
theorem nI(a b n:Nat):∀(k i:Nat) (d:Array α),n-i=k->(bC a b n i d).map f=bC a b n i (d.map f)
 | 0,i,d,hk=>by
  rw[bC,if_neg (by omega),bC,if_neg (by omega)]
 | k+1,i,d,hk=>by
  rw[bC,if_pos (by omega),nI a b n k (i+1) _ (by omega),uA hf]
  conv=>rhs;rw[bC,if_pos (by omega)]
theorem yU(m:Nat):∀(k i j:Nat) (d:Array α),i+j<=k->(jZ m i j d).map f=jZ m i j (d.map f)
 | 0,i,j,d,hk=>by
  rw[jZ,if_pos (by omega),jZ,if_pos (by omega)]
 | k+1,i,j,d,hk=>by
  rw[jZ]
  conv=>rhs;rw[jZ]
  split
  ·rfl
  ·split
   ·rw[nI hf _ _ _ _ _ _ rfl]
   ·split
    ·rw[yU m k _ _ _ (by omega),nI hf _ _ _ _ _ _ rfl]
    ·rw[yU m k _ _ _ (by omega),nI hf _ _ _ _ _ _ rfl]
theorem zR:∀(n i k:Nat) (d:Array α),i-k<=n->(upTo i k d).map f=upTo i k (d.map f)
 | 0,i,k,d,h=>by
  rw[upTo,if_neg (by omega),upTo,if_neg (by omega)]
 | n+1,i,k,d,h=>by
  rw[upTo]
  conv=>rhs;rw[upTo]
  split
  ·rw[zR n i (k+1) _ (by omega),uA hf]
  ·rfl
theorem vN:∀(n i k:Nat) (d:Array α),k-i<=n->(dC i k d).map f=dC i k (d.map f)
 | 0,i,k,d,h=>by
  rw[dC,if_neg (by omega),dC,if_neg (by omega)]
 | n+1,i,k,d,h=>by
  rw[dC]
  conv=>rhs;rw[dC]
  split
  ·rw[vN n i (k-1) _ (by omega),uA hf]
  ·rfl
variable{lt:α->α->Bool}{lt':β->β->Bool}(hl:∀x y,lt x y=lt' (f x) (f y))
include hl
theorem Gs(d:Array α)(a m b:Nat):start lt d a m b=start lt' (d.map f) a m b:=by
 unfold start;have:(fun c:Nat=>!lt d[(a+b)/2+m-1-c]! d[c]!)=fun c=>!lt' (d.map f)[(a+b)/2+m-1-c]! (d.map f)[c]!:=by
  funext c;rw[gV hf,gV hf,hl]
 rw[this]
theorem pR:∀(n a m b:Nat) (d:Array α),(dP lt n a m b d).map f=dP lt' n a m b (d.map f)
 | 0,a,m,b,d=>rfl
 | n+1,a,m,b,d=>by
  rw[dP]
  conv=>rhs;rw[dP]
  have e1:(fun h:Nat=>lt d[h]! d[a]!)=fun h:Nat=>lt' (d.map f)[h]! (d.map f)[a]!:=by
   funext h;rw[gV hf,gV hf,hl]
  have e2:(fun h:Nat=>!lt d[m]! d[h]!)=fun h:Nat=>!lt' (d.map f)[m]! (d.map f)[h]!:=by
   funext h;rw[gV hf,gV hf,hl]
  rw[e1,e2,Gs hf hl];split
  ·exact zR hf _ _ _ _ nL
  ·split
   ·exact vN hf _ _ _ _ nL
   ·dsimp only;generalize start lt' (d.map f) a m b=s;have k1:(if s<m/\m<(a+b)/2+m-s then jZ m (m-s) ((a+b)/2+m-s-m) d else d).map f=if s<m/\m<(a+b)/2+m-s then jZ m (m-s) ((a+b)/2+m-s-m) (d.map f)else d.map f:=by
     split
     ·exact yU hf m _ _ _ d nL
     ·rfl
    rw[<-k1];generalize (if s<m/\m<(a+b)/2+m-s then jZ m (m-s) ((a+b)/2+m-s-m) d else d)=d1;have k2:(if a<s/\s<(a+b)/2 then dP lt n a s ((a+b)/2) d1 else d1).map f=if a<s/\s<(a+b)/2 then dP lt' n a s ((a+b)/2) (d1.map f)else d1.map f:=by
     split
     ·exact pR n _ _ _ d1
     ·rfl
    rw[<-k2];generalize (if a<s/\s<(a+b)/2 then dP lt n a s ((a+b)/2) d1 else d1)=d2;split
    ·exact pR n _ _ _ d2
    ·rfl
theorem qM(a:Nat):∀(j:Nat) (d:Array α),(insInner lt a j d).map f=insInner lt' a j (d.map f)
 | 0,d=>rfl
 | j+1,d=>by
  rw[insInner]
  conv=>rhs;rw[insInner]
  rw[gV hf,gV hf,<-hl];split
  ·rw[qM a j,uA hf]
  ·rfl
theorem qL(a b:Nat):∀(n i:Nat) (d:Array α),b-i<=n->(insOuter lt a b i d).map f=insOuter lt' a b i (d.map f)
 | 0,i,d,h=>by
  rw[insOuter,if_neg (by omega),insOuter,if_neg (by omega)]
 | n+1,i,d,h=>by
  rw[insOuter]
  conv=>rhs;rw[insOuter]
  split
  ·rw[qL a b n (i+1) _ (by omega),qM hf hl]
  ·rfl
theorem zG(a b:Nat)(d:Array α):(insertionSort lt d a b).map f=insertionSort lt' (d.map f) a b:=qL hf hl a b _ _ d nL
theorem vY(n:Nat):∀(k a:Nat) (d:Array α),n-a<=k->(blocks lt n a d).map f=blocks lt' n a (d.map f)
 | 0,a,d,h=>by
  rw[blocks,if_neg (by omega),blocks,if_neg (by omega)];exact zG hf hl _ _ _
 | k+1,a,d,h=>by
  rw[blocks]
  conv=>rhs;rw[blocks]
  split
  ·rw[vY n k (a+20) _ (by omega),zG hf hl]
  ·exact zG hf hl _ _ _
theorem vE(z n:Nat):∀(k a:Nat) (d:Array α),n-a<=k->(merges lt z n a d).map f=merges lt' z n a (d.map f)
 | 0,a,d,h=>by
  rw[merges,dif_neg (by omega),if_neg (by omega),merges,dif_neg (by omega),if_neg (by omega)]
 | k+1,a,d,h=>by
  rw[merges]
  conv=>rhs;rw[merges]
  split
  ·rw[vE z n k (a+2*z) _ (by omega),pR hf hl]
  ·split
   ·exact pR hf hl _ _ _ _ _
   ·rfl
theorem vF(n:Nat):∀(k z:Nat) (d:Array α),n-z<=k->(levels lt n z d).map f=levels lt' n z (d.map f)
 | 0,z,d,h=>by
  rw[levels,if_neg (by omega),levels,if_neg (by omega)]
 | k+1,z,d,h=>by
  rw[levels]
  conv=>rhs;rw[levels]
  split
  ·rw[vF n k (2*z) _ (by omega),vE hf hl z n _ 0 d nL]
  ·rfl
theorem La(d:Array α):(sort lt d).map f=sort lt' (d.map f):=by
 unfold sort;rw[vF hf hl _ _ 20 _ nL,vY hf hl _ _ 0 d nL,Array.size_map]
end
end Stab
end
section
open Top
theorem vV(w:World)(a:Option Addr)(n c:Nat)(hc:n<=c)(hm:c<=9223372036854775807):Calls Tryz.prog 86 #[.slice a n c] w fun e w'=>e=.returned (.slice a n n)/\w'=w:=by
 go_enter Tryz.func86,Tryz.ntmps86;go_wp2;go_returns;exact⟨rfl,rfl⟩
theorem Ei(w:World)(a:Option Addr)(n c:Nat)(hc:n<=c)(hm:c<=9223372036854775807):Calls Tryz.prog 96 #[.slice a n c] w fun e w'=>e=.returned (.slice a n n)/\w'=w:=by
 go_enter Tryz.func96,Tryz.ntmps96;go_wp2;go_returns;exact⟨rfl,rfl⟩
theorem Eh(w:World)(a:Option Addr)(n c:Nat)(hc:n<=c)(hm:c<=9223372036854775807):Calls Tryz.prog 102 #[.slice a n c] w fun e w'=>e=.returned (.slice a n n)/\w'=w:=by
 go_enter Tryz.func102,Tryz.ntmps102;go_wp2;go_returns;exact⟨rfl,rfl⟩
theorem Ej(w:World)(a:Option Addr)(n c:Nat)(hc:n<=c)(hm:c<=9223372036854775807):Calls Tryz.prog 140 #[.slice a n c] w fun e w'=>e=.returned (.slice a n n)/\w'=w:=by
 go_enter Tryz.func140,Tryz.ntmps140;go_wp2;go_returns;exact⟨rfl,rfl⟩
theorem Gj{a b:List Pn}{i:Nat}{x y:Pn}(h:a.take i=b.take i)(hx:a[i]? =some x)(hy:b[i]? =some y)(e:x=y):a.take (i+1)=b.take (i+1):=by
 rw[List.take_add_one,List.take_add_one,h,hx,hy,e]
theorem jR(w:World)(v1 v2:Value)(a b:List Pn)(h1:RowZ 4 w w.heap.size v1 (a.map aG))(h2:RowZ 4 w w.heap.size v2 (b.map aG))(hn1:a.length<=4611686018427387904)(hn2:b.length<=4611686018427387904):
 Calls Tryz.prog 45 #[v1,v2] w fun e w'=>e=.returned (.bool (decide (a=b)))/\∃m,w'=w.drewN m:=by
 obtain⟨a1,c1,hv1⟩:=h1.form;obtain⟨a2,c2,hv2⟩:=h2.form;rw[lM]at hv1 hv2;by_cases hl:a.length=b.length;case neg=>
  have HF:Hid (decide (a=b)=false):=Hd (decide_eq_false fun e=>hl (by rw[e]));obtain⟨N,hN⟩:∃N,N=a.length:=⟨_,rfl⟩;obtain⟨M,hM⟩:∃N,N=b.length:=⟨_,rfl⟩;rw[<-hN]at hv1 hn1 hl;rw[<-hM]at hv2 hn2 hl;have q1:(((N:Nat):Int)==((M:Nat):Int))=false:=by rw[beq_eq_false_iff_ne];omega
  have q2:¬((N:Nat):Int)=((M:Nat):Int):=by omega
  subst hv1 hv2;clear h1 h2 hN hM hl;go_enter Tryz.func45,Tryz.ntmps45;go_wp2;go_returns;exact⟨by rw[HF.out];rfl,0,rfl⟩
 obtain⟨N,hN⟩:∃N,N=a.length:=⟨_,rfl⟩;have hM:N=b.length:=by omega
 rw[<-hN]at hv1 hn1;rw[<-hM]at hv2;have HN:=Hd hN;have HM:=Hd hM;have HA:=Hd h1;have HB:=Hd h2;subst hv1 hv2;clear h1 h2 hN hM hl hn2;go_enter Tryz.func45,Tryz.ntmps45;go_wp2;go_loopw [13] (fun p wr=>∃k m:Nat,p=.int .i64 k/\k<=N/\a.take k=b.take k/\wr=w.drewN m) (fun p _=>N-(intOf p).toNat);case atStart=>exact⟨0,0,rfl,by omega,rfl,rfl⟩
 case round=>
  obtain⟨k,m,rfl,hk,htk,rfl⟩:=hrel;have HTK:=Hd htk;clear htk;by_cases hkN:k<N
  ·obtain⟨x,hx⟩:∃x,a[k]? =some x:=⟨_,gE (by have:=HN.out;omega)⟩;obtain⟨y,hy⟩:∃x,b[k]? =some x:=⟨_,gE (by have:=HM.out;omega)⟩;obtain⟨bk,o,cap,hve,hcap,hbk,hu1⟩:=HA.out.some (by rw[lM];have:=HN.out;omega);obtain⟨bl,ol,cap2,hve2,hcap2,hbl,hu2⟩:=HB.out.some (by rw[lM];have:=HM.out;omega);rw[lM,<-HN.out]at hve;rw[lM,<-HM.out]at hve2;cases hve;cases hve2;have hq1:(a.map aG)[k]? =some (aG x):=by rw[gM,hx];rfl
   have hq2:(b.map aG)[k]? =some (aG y):=by rw[gM,hy];rfl
   obtain⟨pn,⟨pa,pb,pc⟩⟩:=x;obtain⟨pm,⟨qa,qb,qc⟩⟩:=y;have e0:=hu1 k _ hq1 0 _ rfl;have f0:=hu2 k _ hq2 0 _ rfl;have e1:=hu1 k _ hq1 1 _ rfl;have f1:=hu2 k _ hq2 1 _ rfl;have e2:=hu1 k _ hq1 2 _ rfl;have f2:=hu2 k _ hq2 2 _ rfl;have e3:=hu1 k _ hq1 3 _ rfl;have f3:=hu2 k _ hq2 3 _ rfl;rw[Nat.add_zero]at e0 f0;unfold sv at e0 f0;have hkN2:(k:Int)<(N:Int):=by omega
   have HX:=Hd hx;have HY:=Hd hy;clear hu1 hu2 hq1 hq2 hx hy hcap hcap2;cases hsm:dF ⟨pn,⟨pa,pb,pc⟩⟩ ⟨pm,⟨qa,qb,qc⟩⟩
   ·have HF:Hid (decide (a=b)=false):=Hd (decide_eq_false fun e=>by
     have h:=HX.out;rw[e,HY.out]at h;exact of_decide_eq_false hsm (Option.some.inj h).symm)
    go_wp2;go_quiet (fail);go_wp2;go_returns;exact⟨by rw[HF.out];rfl,_,by first | rfl | rw[World.drewN_drewN]⟩
   ·have HNX:=Hd (Gj HTK.out HX.out HY.out (of_decide_eq_true hsm));go_wp2;go_quiet (fail);go_wp2;go_roundw;case rel=>exact⟨k+1,_,by go_num,by omega,HNX.out,by first | rfl | rw[World.drewN_drewN]⟩
    case measure=>simp[intOf];omega
  ·have HF:Hid (decide (a=b)=true):=Hd (decide_eq_true (by
    have h:=HTK.out;rwa[List.take_of_length_le (by have:=HN.out;omega),List.take_of_length_le (by have:=HM.out;omega)]at h))
   go_wp2;go_returns;exact⟨by rw[HF.out];rfl,_,rfl⟩
theorem Gl{a b:List Eg}{i:Nat}{x y:Eg}(h:a.take i=b.take i)(hx:a[i]? =some x)(hy:b[i]? =some y)(e:x=y):a.take (i+1)=b.take (i+1):=by
 rw[List.take_add_one,List.take_add_one,h,hx,hy,e]
theorem Be(w:World)(v1 v2:Value)(a b:List Eg)(h1:RowZ 2 w w.heap.size v1 (a.map bT))(h2:RowZ 2 w w.heap.size v2 (b.map bT))(hn1:a.length<=4611686018427387904)(hn2:b.length<=4611686018427387904):
 Calls Tryz.prog 54 #[v1,v2] w fun e w'=>e=.returned (.bool (decide (a=b)))/\∃m,w'=w.drewN m:=by
 obtain⟨a1,c1,hv1⟩:=h1.form;obtain⟨a2,c2,hv2⟩:=h2.form;rw[lM]at hv1 hv2;by_cases hl:a.length=b.length;case neg=>
  have HF:Hid (decide (a=b)=false):=Hd (decide_eq_false fun e=>hl (by rw[e]));obtain⟨N,hN⟩:∃N,N=a.length:=⟨_,rfl⟩;obtain⟨M,hM⟩:∃N,N=b.length:=⟨_,rfl⟩;rw[<-hN]at hv1 hn1 hl;rw[<-hM]at hv2 hn2 hl;have q1:(((N:Nat):Int)==((M:Nat):Int))=false:=by rw[beq_eq_false_iff_ne];omega
  have q2:¬((N:Nat):Int)=((M:Nat):Int):=by omega
  subst hv1 hv2;clear h1 h2 hN hM hl;go_enter Tryz.func54,Tryz.ntmps54;go_wp2;go_returns;exact⟨by rw[HF.out];rfl,0,rfl⟩
 obtain⟨N,hN⟩:∃N,N=a.length:=⟨_,rfl⟩;have hM:N=b.length:=by omega
 rw[<-hN]at hv1 hn1;rw[<-hM]at hv2;have HN:=Hd hN;have HM:=Hd hM;have HA:=Hd h1;have HB:=Hd h2;subst hv1 hv2;clear h1 h2 hN hM hl hn2;go_enter Tryz.func54,Tryz.ntmps54;go_wp2;go_loopw [13] (fun p wr=>∃k m:Nat,p=.int .i64 k/\k<=N/\a.take k=b.take k/\wr=w.drewN m) (fun p _=>N-(intOf p).toNat);case atStart=>exact⟨0,0,rfl,by omega,rfl,rfl⟩
 case round=>
  obtain⟨k,m,rfl,hk,htk,rfl⟩:=hrel;have HTK:=Hd htk;clear htk;by_cases hkN:k<N
  ·obtain⟨x,hx⟩:∃x,a[k]? =some x:=⟨_,gE (by have:=HN.out;omega)⟩;obtain⟨y,hy⟩:∃x,b[k]? =some x:=⟨_,gE (by have:=HM.out;omega)⟩;obtain⟨bk,o,cap,hve,hcap,hbk,hu1⟩:=HA.out.some (by rw[lM];have:=HN.out;omega);obtain⟨bl,ol,cap2,hve2,hcap2,hbl,hu2⟩:=HB.out.some (by rw[lM];have:=HM.out;omega);rw[lM,<-HN.out]at hve;rw[lM,<-HM.out]at hve2;cases hve;cases hve2;have hq1:(a.map bT)[k]? =some (bT x):=by rw[gM,hx];rfl
   have hq2:(b.map bT)[k]? =some (bT y):=by rw[gM,hy];rfl
   obtain⟨pn,pa⟩:=x;obtain⟨pm,qa⟩:=y;have e0:=hu1 k _ hq1 0 _ rfl;have f0:=hu2 k _ hq2 0 _ rfl;have e1:=hu1 k _ hq1 1 _ rfl;have f1:=hu2 k _ hq2 1 _ rfl;rw[Nat.add_zero]at e0 f0;unfold sv at e0 f0;have hkN2:(k:Int)<(N:Int):=by omega
   have HX:=Hd hx;have HY:=Hd hy;clear hu1 hu2 hq1 hq2 hx hy hcap hcap2;cases hsm:yS ⟨pn,pa⟩ ⟨pm,qa⟩
   ·have HF:Hid (decide (a=b)=false):=Hd (decide_eq_false fun e=>by
     have h:=HX.out;rw[e,HY.out]at h;exact of_decide_eq_false hsm (Option.some.inj h).symm)
    go_wp2;go_quiet (fail);go_wp2;go_returns;exact⟨by rw[HF.out];rfl,_,by first | rfl | rw[World.drewN_drewN]⟩
   ·have HNX:=Hd (Gl HTK.out HX.out HY.out (of_decide_eq_true hsm));go_wp2;go_quiet (fail);go_wp2;go_roundw;case rel=>exact⟨k+1,_,by go_num,by omega,HNX.out,by first | rfl | rw[World.drewN_drewN]⟩
    case measure=>simp[intOf];omega
  ·have HF:Hid (decide (a=b)=true):=Hd (decide_eq_true (by
    have h:=HTK.out;rwa[List.take_of_length_le (by have:=HN.out;omega),List.take_of_length_le (by have:=HM.out;omega)]at h))
   go_wp2;go_returns;exact⟨by rw[HF.out];rfl,_,rfl⟩
end
section
open Go.RowKit Go.Maps Go.WideMaps
namespace Top
namespace KM
variable{κ:Type}[DecidableEq κ]
def RV:Value->Option (DataW Value×List MemPlace):=fun v=>some (.held v,[])
structure KT(kt:TypeId)(enc:κ->Value):Prop where
 keyed:Keyed Tryz.prog kt
 uniq:∀a b kl,keyOf Tryz.prog kt (enc a)=some kl->keyOf Tryz.prog kt (enc b)=some kl->a=b
variable{kt:TypeId}{enc:κ->Value}
def nC(kt:TypeId)(enc:κ->Value)(k:κ):Prop:=∃kl,keyOf Tryz.prog kt (enc k)=some kl
def look(L:List (κ×Value))(k:κ):Option Value:=(L.find? fun x=>x.1==k).map (·.2)
theorem bX(x:κ×Value)(L:List (κ×Value))(k:κ):look (x::L) k=if x.1=k then some x.2 else look L k:=by
 unfold look;rw[List.find?_cons];by_cases h:x.1=k
 ·simp[h]
 ·rw[beq_eq_false_iff_ne.2 h,if_neg h]
theorem fG{L:List (κ×Value)}{k:κ}:(look L k).isSome=true↔k∈L.map (·.1):=by
 induction L with
 | nil=>simp[look]
 | cons x L ih=>
  rw[bX,List.map_cons,List.mem_cons];by_cases h:x.1=k
  ·simp[h]
  ·rw[if_neg h,ih];simp[Ne.symm h]
structure KMap(kt:TypeId)(enc:κ->Value)(w:World)(b n:Nat)(L:List (κ×Value)):Prop where
 own:∃D,w.ownsMap Tryz.prog kt RV b n D/\Maps.size D=L.length/\(∀kl,Maps.has D kl=true->∃k,keyOf Tryz.prog kt (enc k)=some kl/\k∈L.map (·.1))/\
  ∀(k:κ) (kl:Lit),keyOf Tryz.prog kt (enc k)=some kl->Maps.has D kl=(look L k).isSome/\∀zd,D.atKey kl zd=match look L k with | some x=> .held x | none=>zd
 ok:∀k∈L.map (·.1),nC kt enc k
 nodup:(L.map (·.1)).Nodup
variable{w:World}{b n:Nat}{L:List (κ×Value)}
theorem KMap.made(w:World):KMap kt enc (w.alloc (.map #[] 0)) w.heap.size 0 []:=
 ⟨⟨_,World.ownsMap_made _ _ _ _,rfl,fun kl h=>by simp[Maps.has]at h,fun k kl _=>⟨rfl,fun zd=>rfl⟩⟩,fun k h=>by simp at h,List.nodup_nil⟩
theorem KMap.below{w':World}{B:Nat}(h:KMap kt enc w b n L)(hb:Below B w w')(hB:b<B):KMap kt enc w' b n L:=by
 obtain⟨⟨D,⟨es,clock,h1,h2⟩,h3⟩,h4,h5⟩:=h;exact⟨⟨D,⟨es,clock,(hb.block b hB).trans h1,h2⟩,h3⟩,h4,h5⟩
theorem KMap.heap{w':World}(h:KMap kt enc w b n L)(hb:w'.heap[b]? =w.heap[b]?):KMap kt enc w' b n L:=by
 obtain⟨⟨D,⟨es,clock,h1,h2⟩,h3⟩,h4,h5⟩:=h;exact⟨⟨D,⟨es,clock,hb.trans h1,h2⟩,h3⟩,h4,h5⟩
theorem KMap.lt(h:KMap kt enc w b n L):b<w.heap.size:=by
 obtain⟨⟨D,h1,_⟩,_⟩:=h;exact h1.lt
theorem KMap.mono(h:KMap kt enc w b n L){n':Nat}(hn:n<=n'):KMap kt enc w b n' L:=by
 obtain⟨D,h1,h2⟩:=h.own;exact⟨⟨D,h1.mono hn,h2⟩,h.ok,h.nodup⟩
theorem KMap.run_ok(K:KT kt enc)(h:KMap kt enc w b n L){t e:TypeId}(ht:Tryz.prog.underlying t=some (.map kt e))(z:Value)(hz:(zeroValue e).run Tryz.prog w=.ok z w)(k:κ)(hk:nC kt enc k):
 (Instr.lookup t (.map (some b)) (enc k) true).run Tryz.prog w=.ok (.tuple #[(look L k).getD z,.bool (look L k).isSome]) w:=by
 obtain⟨⟨D,h1,h2,h3,h4⟩,h5,h6⟩:=h;obtain⟨kl,hkl⟩:=hk;obtain⟨u,ps,hrun,hu⟩:=h1.look_ok K.keyed ht hz (zd:=.held z) (zp:=[]) rfl hkl;obtain⟨e1,e2⟩:=h4 k kl hkl;rw[hrun,e1];rw[e2]at hu;unfold RV at hu;simp only[iS,Prod.mk.injEq]at hu;have:u=(look L k).getD z:=by
  cases hl:look L k with
  | none=>rw[hl]at hu;simpa using hu.1
  | some x=>rw[hl]at hu;simpa using hu.1
 rw[this]
theorem KMap.run_len(h:KMap kt enc w b n L){t e:TypeId}(ht:Tryz.prog.underlying t=some (.map kt e))(ty:TypeId):(Builtin.len_ #[t] ty #[.map (some b)]).run Tryz.prog w=.ok (.int .i64 L.length) w:=by
 obtain⟨⟨D,h1,h2,h3,h4⟩,h5,h6⟩:=h;rw[h1.len ht,h2]
theorem wQ{L:List (κ×Value)}{k:κ}(h:(L.map (·.1)).Nodup):(L.filter fun y=>y.1 !=k).length+(if k∈L.map (·.1)then 1 else 0)=L.length:=by
 induction L with
 | nil=>simp
 | cons x L ih=>
  rw[List.map_cons,List.nodup_cons]at h;have ih:=ih h.2;by_cases hx:x.1=k
  ·subst hx;rw[List.filter_cons_of_neg (by simp),if_pos (by simp)];rw[if_neg h.1]at ih;simp only[lC];omega
  ·rw[List.filter_cons_of_pos (by simpa using hx)];simp only[lC,List.map_cons,List.mem_cons];by_cases hm:k∈L.map (·.1)
   ·rw[if_pos hm]at ih;rw[if_pos (Or.inr hm)];omega
   ·rw[if_neg hm]at ih;rw[if_neg (by rintro(e | e);exact hx e.symm;exact hm e)];omega
theorem mJ{L:List (κ×Value)}{k k':κ}(h:k≠k'):look (L.filter fun y=>y.1 !=k) k'=look L k':=by
 induction L with
 | nil=>rfl
 | cons x L ih=>
  by_cases hx:x.1=k
  ·rw[List.filter_cons_of_neg (by simpa using hx),bX,if_neg (fun e=>h (by rw[<-hx,e])),ih]
  ·rw[List.filter_cons_of_pos (by simpa using hx),bX,bX,ih]
theorem KMap.run_put(K:KT kt enc)(h:KMap kt enc w b n L){t e:TypeId}(ht:Tryz.prog.underlying t=some (.map kt e))(hn:n<maxLen)(k:κ)(hk:nC kt enc k)(x:Value):
 ∃w',(Instr.mapUpdate t (.map (some b)) (enc k) x).run Tryz.prog w=.ok () w'/\KMap kt enc w' b (n+1) ((k,x)::L.filter fun y=>y.1 !=k)/\w.grownBy w' (some b):=by
 obtain⟨⟨D,h1,h2,h3,h4⟩,h5,h6⟩:=h;obtain⟨kl,hkl⟩:=hk;obtain⟨w',hrun,r1,r2⟩:=h1.update K.keyed ht hn (val:=x) (d:=.held x) (ps:=[]) hkl rfl;refine⟨w',hrun,⟨⟨_,r1,?_,fun kl' hh=>?_,fun k' kl' hk'=>?_⟩,fun k' hk'=>?_,?_⟩,r2⟩
 ·rw[Maps.size_put (h1.tidy K.keyed),(h4 k kl hkl).1,h2];have hf:=wQ (k:=k) h6;rw[lC];by_cases hm:k∈L.map (·.1)
  ·rw[if_pos hm]at hf;rw[if_pos (fG.2 hm)];omega
  ·rw[if_neg hm]at hf;rw[if_neg (fun e=>hm (fG.1 e))];omega
 ·by_cases he:kl'=kl
  ·subst he;exact⟨k,hkl,by simp⟩
  ·rw[Maps.has_put_other he]at hh;obtain⟨k',e1,e2⟩:=h3 kl' hh;refine⟨k',e1,?_⟩;rw[List.map_cons];by_cases hkk:k'=k
   ·exact List.mem_cons.2 (Or.inl hkk)
   ·refine mC _ ?_;obtain⟨y,hy,rfl⟩:=List.mem_map.1 e2;exact List.mem_map.2 ⟨y,List.mem_filter.2 ⟨hy,by simpa using hkk⟩,rfl⟩
 ·rw[bX];by_cases he:k=k'
  ·subst he;rw[hkl]at hk';cases hk';have hl:WideAt.IsKeyLit kl:=K.keyed.one.key ⟨_,hkl⟩;rw[if_pos rfl];exact⟨Maps.has_put_same h1.isMap hl _,fun zd=>Maps.atKey_put_same h1.isMap hl _ _⟩
  ·have hne:kl'≠kl:=fun e=>he (by
    subst e;exact K.uniq _ _ _ hkl hk')
   rw[if_neg he,mJ he];exact⟨(Maps.has_put_other hne _).trans (h4 k' kl' hk').1,fun zd=>(Maps.atKey_put_other hne _ _).trans ((h4 k' kl' hk').2 zd)⟩
 ·rw[List.map_cons]at hk';rcases List.mem_cons.1 hk' with rfl | hk'
  ·exact⟨kl,hkl⟩
  ·obtain⟨y,hy,rfl⟩:=List.mem_map.1 hk';exact h5 _ (List.mem_map.2 ⟨y,(List.mem_filter.1 hy).1,rfl⟩)
 ·rw[List.map_cons,List.nodup_cons];refine⟨fun hm=>?_,List.Pairwise.sublist (List.filter_sublist.map _) h6⟩;obtain⟨y,hy,e⟩:=List.mem_map.1 hm;have:=(List.mem_filter.1 hy).2;simp[e]at this
theorem Km{n:Int}(h0: -9223372036854775808<=n)(h1:n<=9223372036854775807):(Lit.int .i64 n).wf=true:=by
 have e1:IntKind.i64.min= -9223372036854775808:=by decide
 have e2:IntKind.i64.max=9223372036854775807:=by decide
 show(decide (IntKind.i64.min<=n)&&decide (n<=IntKind.i64.max))=true;rw[e1,e2];simp[h0,h1]
theorem Dn:KT 3 (fun n:Int=> .int .i64 n) where
 keyed:=int_keyed Tryz.underlying3
 uniq a b kl ha hb:=by
  unfold keyOf at ha hb;simp[Tryz.underlying3,mapKey]at ha hb;have:=ha.2.trans hb.2.symm;simpa using this
theorem Dm{n:Int}(h:(Lit.int .i64 n).wf=true):nC 3 (fun n:Int=> .int .i64 n) n:=⟨_,keyOf_int_mk Tryz.underlying3 h⟩
theorem lU:KT 9 (fun s:List UInt8=> .string (bs s)) where
 keyed:=string_keyed Tryz.underlying9
 uniq a b kl ha hb:=by
  have:=(WideMaps.string_law (P:=Tryz.prog) Tryz.underlying9).inj ha hb;have h2:bs a=bs b:=by simpa using this
  exact congrArg (fun x:ByteArray=>x.data.toList) h2
end KM
end Top
end
section
namespace Lock
theorem vZ:∀(a b:List UInt8),Op.bytesLess a b=bytesBefore a b
 | [],[]=>rfl
 | [],_::_=>rfl
 | _::_,[]=>rfl
 | a::r,b::s=>by
  rw[Op.bytesLess,bytesBefore,vZ r s]
theorem jX:∀(i:Nat) (a b:List UInt8),i<=a.length->i<=b.length->a.take i=b.take i->bytesBefore a b=bytesBefore (a.drop i) (b.drop i)
 | 0,a,b,_,_,_=>rfl
 | i+1,x::a,y::b,h1,h2,h=>by
  simp only[List.take_succ_cons,List.cons.injEq]at h;obtain⟨rfl,h⟩:=h;rw[List.drop_succ_cons,List.drop_succ_cons,<-jX i a b (by simpa using h1) (by simpa using h2) h];have:¬x<x:=fun hh=>by
   have:=UInt8.lt_iff_toNat_lt.1 hh;omega
  simp[bytesBefore,this]
theorem Bo{a b:List UInt8}{i:Nat}{x y:UInt8}(hx:a[i]? =some x)(hy:b[i]? =some y)(h:a.take i=b.take i)(hne:x≠y):bytesBefore a b=decide (x.toNat<y.toNat):=by
 have h1:=(gS hx).1;have h2:=(gS hy).1;rw[jX i a b (by omega) (by omega) h,List.drop_eq_getElem_cons h1,List.drop_eq_getElem_cons h2,(gS hx).2,(gS hy).2];have e:(x==y)=false:=by rw[beq_eq_false_iff_ne];exact hne
 unfold bytesBefore;rw[e,Bool.false_and,Bool.or_false];exact decide_eq_decide.2 UInt8.lt_iff_toNat_lt
theorem Ep{a b:List UInt8}{i:Nat}(h1:i<=a.length)(h2:i<=b.length)(h:a.take i=b.take i)(he:¬(i<a.length/\i<b.length)):bytesBefore a b=decide (a.length<b.length):=by
 rw[jX i a b h1 h2 h];rcases Nat.lt_or_ge i a.length with ha | ha
 ·have hb:i=b.length:=by omega
  rw[List.drop_eq_getElem_cons ha,List.drop_of_length_le (l:=b) (by omega),decide_eq_false (by omega)];rfl
 ·rw[List.drop_of_length_le (l:=a) ha];rcases Nat.lt_or_ge i b.length with hb | hb
  ·rw[List.drop_eq_getElem_cons hb,decide_eq_true (by omega)];rfl
  ·rw[List.drop_of_length_le hb,decide_eq_false (by omega)];rfl
end Lock
open Lock
theorem rE(s t:ByteArray)(hs:s.size<=9223372036854775807)(ht:t.size<=9223372036854775807)(w:World):
 Calls Tryz.prog 112 #[.string s,.string t] w fun e w'=>e=.returned (.bool (bytesBefore s.data.toList t.data.toList))/\∃m,w'=w.drewN m:=by
 have HSL:=Hd (fD s);have HTL:=Hd (fD t);go_enter Tryz.func112,Tryz.ntmps112;go_wp2;go_loopw [5] (fun p wr=>∃i:Nat,p=.int .i64 i/\i<=s.size/\i<=t.size/\s.data.toList.take i=t.data.toList.take i/\∃m,wr=w.drewN m) (fun p _=>s.size-(intOf p).toNat);case atStart=>exact⟨0,rfl,by omega,by omega,rfl,0,rfl⟩
 case round=>
  obtain⟨i,rfl,hi1,hi2,hpre,m,rfl⟩:=hrel;have HPRE:=Hd hpre;clear hpre;by_cases hin:i<s.size/\i<t.size
  ·obtain⟨h1,h2⟩:=hin;have HC:=Hd (byte_at s h1);have HD:=Hd (byte_at t h2);have q1:(i:Int)<(s.size:Int):=by omega
   have q2:(i:Int)<(t.size:Int):=by omega
   by_cases hne:s[i]=t[i]
   ·have HNX:Hid (s.data.toList.take (i+1)=t.data.toList.take (i+1)):=Hd (by rw[List.take_add_one,List.take_add_one,HPRE.out,HC.out,HD.out,hne]);have hq:(((s[i]).toNat:Int)==((t[i]).toNat:Int))=true:=by rw[hne];simp
    clear hne;go_wp2;go_quiet (fail);go_wp2;go_roundw;case rel=>exact⟨i+1,by go_num,by omega,by omega,HNX.out,m+nq,by first | rfl | rw[World.drewN_drewN]⟩
    case measure=>simp[intOf];omega
   ·have HR:Hid (bytesBefore s.data.toList t.data.toList=decide (s[i].toNat<t[i].toNat)):=Hd (Bo HC.out HD.out HPRE.out hne);have hq:(((s[i]).toNat:Int)==((t[i]).toNat:Int))=false:=by
     rw[beq_eq_false_iff_ne];intro e;exact hne (UInt8.toNat_inj.1 (by omega))
    have hq2:(((s[i]).toNat:Int) !=((t[i]).toNat:Int))=true:=by rw[bne,hq];rfl
    clear hne;go_wp2;go_quiet (fail);go_wp2;go_quiet (fail);go_wp2;go_returns;exact⟨by rw[HR.out];rfl,_,by rw[World.drewN_drewN,World.drewN_drewN]⟩
  ·have HR:Hid (bytesBefore s.data.toList t.data.toList=decide (s.data.toList.length<t.data.toList.length)):=Hd (Ep (by rw[HSL.out];exact hi1) (by rw[HTL.out];exact hi2) HPRE.out (by rw[HSL.out,HTL.out];exact hin));rw[HSL.out,HTL.out]at HR;by_cases h1:i<s.size
   ·have q1:(i:Int)<(s.size:Int):=by omega
    have q2:¬(i:Int)<(t.size:Int):=by omega
    clear hin;go_wp2;go_returns;exact⟨by rw[HR.out];simp,m,rfl⟩
   ·have q1:¬(i:Int)<(s.size:Int):=by omega
    clear hin;go_wp2;go_returns;exact⟨by rw[HR.out];simp,m,rfl⟩
theorem Hl(s t:ByteArray)(hs:s.size<=9223372036854775807)(ht:t.size<=9223372036854775807)(w:World):
 Calls Tryz.prog 66 #[.string s,.string t] w fun e w'=>e=.returned (.bool (bytesBefore s.data.toList t.data.toList))/\∃m,w'=w.drewN m:=by
 have H:=Hd (rE s t hs ht);go_enter Tryz.func66,Tryz.ntmps66;go_wp2_with fail;refine(H.out _).mono ?_;rintro e w' ⟨rfl,m,rfl⟩;go_wp2;go_returns;exact⟨rfl,m,rfl⟩
end
section
open Go.RowKit Go.Sort
open Top
namespace Top
def bZ(w w':World):Prop:=∃(q:Nat) (os':Array Obj),w'=grow (w.drewN q) os'
theorem bZ.refl(w:World):bZ w w:=⟨0,#[],by rw[grow_empty];rfl⟩
theorem bZ.trans{a b c:World}(h:bZ a b)(k:bZ b c):bZ a c:=by
 obtain⟨q,os,rfl⟩:=h;obtain⟨q',os',rfl⟩:=k;refine⟨q+q',os++os',?_⟩;unfold grow World.drewN;dsimp only;rw[Array.append_assoc,Nat.add_assoc]
theorem bZ.alloc{a b:World}(h:bZ a b)(o:Obj):bZ a (b.alloc o):=h.trans ⟨0,#[o],by rw[alloc_eq_grow];rfl⟩
theorem bZ.drewN{a b:World}(h:bZ a b)(n:Nat):bZ a (b.drewN n):=h.trans ⟨n,#[],by rw[grow_empty]⟩
theorem bZ.drew{a b:World}(h:bZ a b):bZ a b.drew:=h.trans ⟨1,#[],by rw[grow_empty];rfl⟩
theorem bZ.below{a b:World}(h:bZ a b):Below a.heap.size a b:=by
 obtain⟨q,os,rfl⟩:=h;refine⟨rfl,rfl,rfl,?_,fun k hk=>?_⟩
 ·show a.heap.size<=(a.heap++os).size;rw[Array.size_append];omega
 ·show(a.heap++os)[k]? =_;rw[Array.getElem?_append_left hk]
end Top
namespace VL
theorem Js(a b c a' b' c':Int)(w:World):
 Calls Tryz.prog 78 #[.agg #[.int .i64 a,.int .i64 b,.int .i64 c],.agg #[.int .i64 a',.int .i64 b',.int .i64 c']] w fun e w'=>e=.returned (.int .i64 (V.cmp a b c a' b' c'))/\bZ w w':=by
 go_enter Tryz.func78,Tryz.ntmps78;go_wp2;refine uN 15 (by kernel_rfl) (by kernel_rfl) fun w2 hw2=>?_;simp only[List.take_succ_cons,List.take_zero,List.drop_succ_cons,List.drop_zero];have c0:∀x o,x<w.heap.size+2->w2.cell? ⟨x,o,none⟩=((w.alloc (.cells #[.int .i64 a,.int .i64 b,.int .i64 c] 50)).alloc (.cells #[.int .i64 a',.int .i64 b',.int .i64 c'] 50)).cell? ⟨x,o,none⟩:=fun x o _=>by rw[hw2];rfl
 have B2:bZ w w2:=by rw[hw2];repeat (first | exact bZ.refl _ | refine bZ.drewN ?_ _ | refine bZ.drew ?_ | refine bZ.alloc ?_ _)
 have hz:w.heap.size+1<w2.heap.size:=by rw[hw2];simp
 clear hw2;repeat still_step
 still_call (kI _ _ _)
 repeat still_step
 still_call (kI _ _ _)
 repeat still_step
 still_call (kI _ _ _)
 refine wpStill_nil ?_;go_wp2_with fail;refine(Fg _ _ _ _ _ (World.cell?_alloc_new _ _ _ _) (World.cell?_alloc_new _ _ _ _) (World.cell?_alloc_new _ _ _ _)).mono ?_;rintro e w3 ⟨rfl,rfl⟩;go_wp2_with fail;go_returns;exact⟨rfl,B2.alloc _⟩
end VL
theorem Dq(w:World)(v:Value)(l:List Pn)(q:Pn)(h:bN w w.heap.size v l)(hn:l.length<=4611686018427387904):
 Calls Tryz.prog 128 #[v,.agg ⟨aG q⟩] w fun e w'=>e=.returned (.int .i64 (aN (fun i=>match l[i]? with | some p=>dF q p | none=>false) l.length))/\bZ w w':=by
 obtain⟨a1,c1,hv1⟩:=RowZ.form h;rw[lM]at hv1;obtain⟨N,hN⟩:∃N,N=l.length:=⟨_,rfl⟩;rw[<-hN]at hv1 hn |-;have HN:=Hd hN;have HA:=Hd h;obtain⟨p,hp⟩:∃p:Nat->Bool,p=(fun i=>match l[i]? with | some p=>dF q p | none=>false):=⟨_,rfl⟩;rw[<-hp];have HP:Hid (∀(i:Nat) x,l[i]? =some x->p i=dF q x):=Hd (fun i x hx=>by rw[hp];dsimp only;rw[hx]);obtain⟨qn,⟨qa,qb,qc⟩⟩:=q;subst hv1;clear h hN hp;show Calls Tryz.prog 128 #[_,.agg #[.string (bs qn),.int .i64 qa,.int .i64 qb,.int .i64 qc]] w _;go_enter Tryz.func128,Tryz.ntmps128;obtain⟨wa,hwa⟩:∃y,y=w.alloc (.cells #[.string (bs qn),.int .i64 qa,.int .i64 qb,.int .i64 qc] 101):=⟨_,rfl⟩;have hba:Below w.heap.size w wa:=by rw[hwa];exact(bR _ w).alloc nL _
 have g0:wa.cell? ⟨w.heap.size,0,none⟩=some (.string (bs qn)):=by rw[hwa];exact World.cell?_alloc_at _ _ _ _ rfl
 have g1:wa.cell? ⟨w.heap.size,1,none⟩=some (.int .i64 qa):=by rw[hwa];exact World.cell?_alloc_at _ _ _ _ rfl
 have g2:wa.cell? ⟨w.heap.size,2,none⟩=some (.int .i64 qb):=by rw[hwa];exact World.cell?_alloc_at _ _ _ _ rfl
 have g3:wa.cell? ⟨w.heap.size,3,none⟩=some (.int .i64 qc):=by rw[hwa];exact World.cell?_alloc_at _ _ _ _ rfl
 have gwa:bZ w wa:=by rw[hwa];exact(bZ.refl w).alloc _
 have HWA:=Hd hwa;clear hwa;go_wp2;rw[<-HWA.out];go_loopw [8] (fun r wr=>∃k m:Nat,r=.int .i64 k/\k<=N/\(∀j,j<k->p j=false)/\wr=wa.drewN m) (fun r _=>N-(intOf r).toNat);case atStart=>exact⟨0,0,rfl,by omega,fun j hj=>absurd hj (by omega),rfl⟩
 case round=>
  obtain⟨k,m,rfl,hk,hno,rfl⟩:=hrel;have HNO:=Hd hno;clear hno;by_cases hkN:k<N
  ·obtain⟨x,hx⟩:∃x,l[k]? =some x:=⟨_,gE (by have:=HN.out;omega)⟩;obtain⟨bk,o,cap,hve,hcap,hbk,hu1⟩:=RowZ.some HA.out (by rw[lM];have:=HN.out;omega);rw[lM,<-HN.out]at hve;cases hve;have hq1:(l.map aG)[k]? =some (aG x):=by rw[gM,hx];rfl
   have hpk:=HP.out k x hx;obtain⟨pn,⟨pa,pb,pc⟩⟩:=x;have e0:=(hba.cell (p:=⟨bk,o+k*4+0,none⟩) hbk).trans (hu1 k _ hq1 0 _ rfl);have e1:=(hba.cell (p:=⟨bk,o+k*4+1,none⟩) hbk).trans (hu1 k _ hq1 1 _ rfl);have e2:=(hba.cell (p:=⟨bk,o+k*4+2,none⟩) hbk).trans (hu1 k _ hq1 2 _ rfl);have e3:=(hba.cell (p:=⟨bk,o+k*4+3,none⟩) hbk).trans (hu1 k _ hq1 3 _ rfl);rw[Nat.add_zero]at e0;unfold sv at e0;have hkN2:(k:Int)<(N:Int):=by omega
   clear hu1 hq1 hx hcap;cases hsm:dF ⟨qn,⟨qa,qb,qc⟩⟩ ⟨pn,⟨pa,pb,pc⟩⟩
   ·have HNX:Hid (∀j,j<k+1->p j=false):=Hd (fun j hj=>by
     rcases Nat.lt_or_ge j k with h | h
     ·exact HNO.out j h
     ·rw[show j=k by omega,hpk];exact hsm)
    clear hpk;go_wp2;go_quiet (fail);go_wp2;go_roundw;case rel=>exact⟨k+1,_,by go_num,by omega,HNX.out,by first | rfl | rw[World.drewN_drewN]⟩
    case measure=>simp[intOf];omega
   ·have HF:Hid (aN p N=(k:Int)):=Hd (bH hkN (by rw[hpk];exact hsm) HNO.out);clear hpk;go_wp2;go_quiet (fail);go_wp2;go_returns;exact⟨by rw[HF.out];rfl,by first | exact gwa.drewN _ | exact(gwa.drewN _).drewN _⟩
  ·have HF:Hid (aN p N= -1):=Hd (dQ fun j hj=>HNO.out j (by omega));go_wp2;go_returns;exact⟨by rw[HF.out];rfl,gwa.drewN _⟩
end
section
namespace Top
theorem Ea{g:List Nd}{x:Nd}(hl:bM (·.label) x.edges){e:Eg}(he:e∈x.edges):bE g x.edges e.label=g[e.dst.toNat]?:=by
 unfold bE;cases hf:x.edges.find? (fun u=>u.label==e.label)with
 | none=>
  rw[List.find?_eq_none]at hf;exact absurd (by simp) (hf e he)
 | some u=>
  have hu:=List.mem_of_find?_eq_some hf;have hn:u.label=e.label:=by simpa using List.find?_some hf
  rw[fH (aX _ hl) hu he hn];rfl
theorem uE{g:List Nd}{x y:Nd}{n:List UInt8}(h:bE g x.edges n=some y):∃e∈x.edges,e.label=n/\g[e.dst.toNat]? =some y:=by
 unfold bE at h;cases hf:x.edges.find? (fun u=>u.label==n)with
 | none=>rw[hf]at h;simp at h
 | some u=>
  rw[hf]at h;exact⟨u,List.mem_of_find?_eq_some hf,by simpa using List.find?_some hf,h⟩
theorem zL{g:List Nd}(F:Formed g){i:Nat}{x y:Nd}{e:Eg}(hx:g[i]? =some x)(he:e∈x.edges)(hy:g[e.dst.toNat]? =some y):∃j:Nat,1<=j/\g[j]? =some y/\y.name=e.label:=by
 obtain⟨j,z,h1,h2,h3,h4⟩:=F.dst i x e hx he;rw[h1,Int.toNat_natCast,h3]at hy;cases hy;exact⟨j,h2,h3,h4⟩
theorem uD{g:List Nd}:∀(es:List Eg) (l0 l:List Pn),es.foldl (cZ g) (some l0)=some l->(∀p∈l0,p∈l)/\(∀p∈l,p∈l0\/∃e∈es,∃y,g[e.dst.toNat]? =some y/\p=⟨e.label,y.v⟩)/\
 (∀e∈es,∃y,g[e.dst.toNat]? =some y/\(⟨e.label,y.v⟩:Pn)∈l)/\((l0.map (·.name)).Nodup->(l.map (·.name)).Nodup)
 | [],l0,l,h=>by
  simp only[List.foldl_nil,iS]at h;subst h;exact⟨fun p hp=>hp,fun p hp=>Or.inl hp,fun e he=>absurd he (by simp),id⟩
 | e::r,l0,l,h=>by
  rw[List.foldl_cons]at h;have none_fold:∀es:List Eg,es.foldl (cZ g) none=none:=by
   intro es;induction es with
   | nil=>rfl
   | cons a b ih=>rw[List.foldl_cons];exact ih
  cases hy:g[e.dst.toNat]? with
  | none=>
   have:cZ g (some l0) e=none:=by unfold cZ;rw[Option.bind_some,hy];rfl
   rw[this,none_fold]at h;exact absurd h (by simp)
  | some y=>
   cases ht:told l0 e.label with
   | none=>
    have:cZ g (some l0) e=some (l0++[⟨e.label,y.v⟩]):=by unfold cZ;rw[Option.bind_some,hy,Option.bind_some,ht]
    rw[this]at h;obtain⟨h1,h2,h3,h4⟩:=uD r _ l h;refine⟨fun p hp=>h1 p (List.mem_append_left _ hp),fun p hp=>?_,fun u hu=>?_,fun hn=>h4 ?_⟩
    ·rcases h2 p hp with h | ⟨u,hu,z,hz,e2⟩
     ·rcases List.mem_append.1 h with h | h
      ·exact Or.inl h
      ·simp only[mI]at h;exact Or.inr ⟨e,List.mem_cons_self,y,hy,h⟩
     ·exact Or.inr ⟨u,mC _ hu,z,hz,e2⟩
    ·rcases List.mem_cons.1 hu with rfl | hu
     ·exact⟨y,hy,h1 _ (List.mem_append_right _ List.mem_cons_self)⟩
     ·exact h3 u hu
    ·rw[List.map_append,List.nodup_append];refine⟨hn,by simp,fun a ha b hb e'=>?_⟩;obtain⟨q,hq,rfl⟩:=List.mem_map.1 ha;simp only[List.map_cons,List.map_nil,mI]at hb;exact told_none ht q hq (by rw[e',hb])
   | some v=>
    have hs:cZ g (some l0) e=if v=y.v then some l0 else none:=by unfold cZ;rw[Option.bind_some,hy,Option.bind_some,ht]
    rw[hs]at h;by_cases hv:v=y.v
    ·rw[if_pos hv]at h;obtain⟨h1,h2,h3,h4⟩:=uD r _ l h;refine⟨h1,fun p hp=>?_,fun u hu=>?_,h4⟩
     ·rcases h2 p hp with h | ⟨u,hu,z,hz,e2⟩
      ·exact Or.inl h
      ·exact Or.inr ⟨u,mC _ hu,z,hz,e2⟩
     ·rcases List.mem_cons.1 hu with rfl | hu
      ·obtain⟨q,hq,hqn,hqv⟩:=eP ht;refine⟨y,hy,?_⟩;have:(⟨u.label,y.v⟩:Pn)=q:=by rw[<-hqn,<-hv,<-hqv]
       rw[this];exact h1 q hq
      ·exact h3 u hu
    ·rw[if_neg hv,none_fold]at h;exact absurd h (by simp)
def lG(g:List Nd)(X:Nd)(y:Ch):Nat:=match bE g X.edges y.name with
 | some z=>y.vs.idxOf z.v
 | none=>y.vs.length
def Bz(g:List Nd)(nd:Nd)(m:Nat)(X:Nd):Prop:=g[m]? =some X/\bO nd X=true
section
variable{P:Pb}{has:List UInt8->Ve->Bool}(F:P.Fits has){g:List Nd}(C:Checks P has g)
include F C
theorem Ah(own_pos:∀i j (x y:Nd),0<i->0<j->x.name=y.name->x.v=y.v->P.own i x=P.own j y){i m:Nat}{nd X:Nd}(h:Bz g nd m X)(h0:i=0->nd=nd0)(hi:0<i->nd.name≠[]):P.own i nd=P.own m X:=by
 obtain⟨h1,h2⟩:=h;obtain⟨n1,n2,n3⟩:=same_iff.1 h2;by_cases hi0:i=0
 ·have hm:m=0:=by
   refine Decidable.byContradiction fun hm=>?_;obtain⟨R,hR⟩:∃R,g[0]? =some R:=⟨_,gE C.formed.some'⟩;have hr:=C.formed.root R hR;have:=C.formed.diff m 0 X R (by omega) h1 hR;rw[h0 hi0]at n1 n2 n3;rw[same_iff.2 ⟨by rw[hr.1,<-n1];rfl,by rw[hr.2.1,<-n2];rfl,by rw[hr.2.2,<-n3];rfl⟩]at this;exact absurd this (by simp)
  subst hi0 hm;have e:X= {nd with edges:=X.edges}:=by
   obtain⟨a,b,c,d⟩:=X;obtain⟨a',b',c',d'⟩:=nd;dsimp only at n1 n2 n3;subst n1 n2 n3;rfl
  have e2:=F.own_eq 0 nd X.edges;rw[<-e]at e2;exact e2.symm
 ·have hm:0<m:=by
   refine Nat.pos_of_ne_zero fun hm=>?_;subst hm;exact hi (by omega) (by rw[n1];exact(C.formed.root X h1).1)
  exact own_pos i m nd X (by omega) hm n1 n2
theorem Li{i m:Nat}{nd X:Nd}{w:Wt}{y:Ch}(h:Bz g nd m X)(hw:w∈P.own m X)(hy:kL P i nd.ctx w y):lG g X y<y.many:=by
 obtain⟨h1,h2⟩:=h;obtain⟨n1,n2,n3⟩:=same_iff.1 h2;have hs:=C.sound m X h1;have hyn:=hy.form.2;have how:=hs.own w hw;unfold kL aK at hy;unfold lG;rw[hyn];cases ht:told nd.ctx w.name with
 | some v=>
  rw[ht]at hy;have hv:y.vs=if P.inR w.rg v=true then [v]else []:=congrArg Ch.vs hy
  have hn:y.none=false:=congrArg Ch.none hy;obtain⟨q,hq,hqn,hqv⟩:=eP ht;rw[n3]at hq;obtain⟨z,hz1,hz2⟩:=hs.ctx q hq;rw[hqn]at hz1;rw[hz1]at how |-;dsimp only at how |-;have hzv:z.v=v:=by rw[hz2,hqv]
  rw[hzv]at how |-;rw[if_pos how]at hv;unfold Ch.many;rw[hn,hv];simp
 | none=>
  rw[ht]at hy;have hv:y.vs=P.cands w.name w.rg:=congrArg Ch.vs hy;have hn:y.none=(w.kind==2):=congrArg Ch.none hy;cases hz:bE g X.edges w.name with
  | some z=>
   rw[hz]at how;dsimp only at how |-;obtain⟨e,he,hel,hez⟩:=uE hz;obtain⟨j,j1,j2,j3⟩:=zL C.formed h1 he hez;have hh:=C.has j z j2 (by omega);have hm:z.v∈y.vs:=by
    rw[hv];exact(F.cands _ _ _).2 ⟨by rw[<-hel,<-j3];exact hh,how⟩
   have:=List.idxOf_lt_length_iff.2 hm;unfold Ch.many;split<;>omega
  | none=>
   rw[hz]at how;dsimp only at how |-;have hk:=(F.own_name m X w hw).2;unfold Ch.many;rw[hn,if_pos (by rcases hk with h | h;exact absurd h how;rw[h];rfl)];omega
theorem Lh{i m:Nat}{nd X:Nd}{w:Wt}{y:Ch}(h:Bz g nd m X)(hw:w∈P.own m X)(hy:kL P i nd.ctx w y)(hp:y.pos=lG g X y):y.pick=(bE g X.edges w.name).map (·.v):=by
 have hlt:=Li F C h hw hy;have hyn:=hy.form.2;unfold Ch.pick;rw[hp];unfold lG at hlt |-;rw[hyn]at hlt |-;cases hz:bE g X.edges w.name with
 | none=>
  dsimp only;rw[List.getElem?_eq_none nL];rfl
 | some z=>
  rw[hz]at hlt;dsimp only at hlt |-;have hm:z.v∈y.vs:=by
   -- else there is no such place
   obtain⟨h1,h2⟩:=h;obtain⟨n1,n2,n3⟩:=same_iff.1 h2;have hs:=C.sound m X h1;have how:=hs.own w hw;rw[hz]at how;dsimp only at how;unfold kL aK at hy;cases ht:told nd.ctx w.name with
   | some v=>
    rw[ht]at hy;have hv:y.vs=if P.inR w.rg v=true then [v]else []:=congrArg Ch.vs hy
    obtain⟨q,hq,hqn,hqv⟩:=eP ht;rw[n3]at hq;obtain⟨z',hz1,hz2⟩:=hs.ctx q hq;rw[hqn,hz]at hz1;cases hz1;rw[hz2,hqv]at how |-;rw[if_pos how]at hv;rw[hv];simp
   | none=>
    rw[ht]at hy;have hv:y.vs=P.cands w.name w.rg:=congrArg Ch.vs hy;obtain⟨e,he,hel,hez⟩:=uE hz;obtain⟨j,j1,j2,j3⟩:=zL C.formed h1 he hez;rw[hv];exact(F.cands _ _ _).2 ⟨by rw[<-hel,<-j3];exact C.has j z j2 (by omega),how⟩
  rw[gE (List.idxOf_lt_length_iff.2 hm),List.getElem_idxOf];rfl
theorem Nz{i m:Nat}{nd X:Nd}{chs:List Ch}(h:Bz g nd m X)(ho:P.own i nd=P.own m X)(hl:chs.length=(P.own i nd).length)
 (hk:∀(t:Nat) x,chs[t]? =some x->∃w,(P.own i nd)[t]? =some w/\kL P i nd.ctx w x)(hp:∀x∈chs,x.pos=lG g X x):
 ∃ts,targets P (fM nd.ctx chs) (fM nd.ctx chs)=some ts/\∀x∈ts,∃j Y,Bz g x j Y:=by
 obtain⟨h1,h2⟩:=h;obtain⟨n1,n2,n3⟩:=same_iff.1 h2;have hs:=C.sound m X h1;have hlab:=C.formed.lab m X h1;have hcr:bM (·.name) nd.ctx:=by rw[n3];exact C.formed.ctx m X h1
 have hnames:chs.map (·.name)=(P.own i nd).map (·.name):=by
  apply List.ext_getElem?;intro t;rw[gM,gM];by_cases ht:t<chs.length
  ·obtain⟨w,hw,hlk⟩:=hk t _ (gE ht);rw[hw,gE ht];simp only[Option.map_some,iS];exact hlk.form.2
  ·rw[List.getElem?_eq_none (by omega),List.getElem?_eq_none (by omega)];rfl
 have hnd:(chs.map (·.name)).Nodup:=by rw[hnames];exact F.own_nodup i nd
 have pick:∀x∈chs,x.pick=(bE g X.edges x.name).map (·.v):=fun x hx=>by
  obtain⟨t,ht,rfl⟩:=eI.1 hx;obtain⟨w,hw,hlk⟩:=hk t _ (gE ht);rw[hlk.form.2];exact Lh F C ⟨h1,h2⟩ (by rw[<-ho];exact mG hw) hlk (hp _ hx)
 obtain⟨env,henv,hedge⟩:=hs.env;unfold environment at henv;cases hf:X.edges.foldl (cZ g) (some X.ctx)with
 | none=>rw[hf]at henv;simp at henv
 | some l=>
  rw[hf]at henv;simp only[Option.map_some,iS]at henv;obtain⟨f1,f2,f3,f4⟩:=uD _ _ _ hf;have hlnd:=f4 (aX _ (by rw[<-n3];exact hcr));have henv':bM (·.name) env:=by rw[<-henv];exact fB _ hlnd
  have hmem:∀p,p∈env↔p∈l:=fun p=>by rw[<-henv];exact(bW _ l).mem_iff
  have heq:fM nd.ctx chs=env:=by
   refine nN (·.name) (xU (aX _ hcr)) henv' fun p=>?_;rw[nX,hmem];constructor
   ·intro hpE;rcases eY chs _ p hpE with hc | ⟨x,hx,hxn,hxp,hxt⟩
    ·exact f1 p (by rw[<-n3];exact hc)
    ·rw[pick x hx]at hxp;cases hz:bE g X.edges x.name with
     | none=>rw[hz]at hxp;simp at hxp
     | some z=>
      rw[hz]at hxp;simp only[Option.map_some,iS]at hxp;obtain⟨e,he,hel,hez⟩:=uE hz;obtain⟨y,hy,hyl⟩:=f3 e he;rw[hez]at hy;cases hy;have:(⟨e.label,z.v⟩:Pn)=p:=by rw[hel,hxn,hxp]
      rw[<-this];exact hyl
   ·intro hpl;rcases f2 p hpl with hc | ⟨e,he,y,hy,rfl⟩
    ·exact dR chs _ p (by rw[n3];exact hc)
    ·have hfound:=Ea (g:=g) hlab he;rw[hy]at hfound;have inctx:∀q∈X.ctx,q.name=e.label->(⟨e.label,y.v⟩:Pn)∈chs.foldl bD nd.ctx:=fun q hq hqn=>by
      obtain⟨z,hz1,hz2⟩:=hs.ctx q hq;rw[hqn,hfound]at hz1;cases hz1;have:(⟨e.label,y.v⟩:Pn)=q:=by rw[<-hqn,hz2]
      rw[this];exact dR chs _ q (by rw[n3];exact hq)
     obtain⟨y',hy',hnamed,_⟩:=hedge e he;rcases hnamed with⟨w,hw,hwn⟩ | ⟨q,hq,hqn⟩
     ·rw[<-ho]at hw;have hwc:w.name∈chs.map (·.name):=by rw[hnames];exact List.mem_map.2 ⟨w,hw,rfl⟩
      obtain⟨x,hx,hxn⟩:=List.mem_map.1 hwc;cases ht:told nd.ctx x.name with
      | some v=>
       obtain⟨q,hq,hqn,_⟩:=eP ht;exact inctx q (by rw[<-n3];exact hq) (by rw[hqn,hxn,hwn])
      | none=>
       have hpk:=pick x hx;rw[hxn,hwn,hfound]at hpk;have:=iO chs _ hnd x hx y.v hpk ht;rw[hxn,hwn]at this;exact this
     ·exact inctx q hq hqn
  rw[heq]
  -- each pin is an edge's target
  have tgt:∀p∈env,∃c,P.ctxOf env p=some c/\∃j Y,Bz g ⟨p.name,p.v,c,[]⟩ j Y:=fun p hpE=>by
   have key:∀e∈X.edges,∀y,g[e.dst.toNat]? =some y->p=⟨e.label,y.v⟩->∃c,P.ctxOf env p=some c/\∃j Y,Bz g ⟨p.name,p.v,c,[]⟩ j Y:=fun e he y hy hpe=>by
    obtain⟨y',hy',_,hc⟩:=hedge e he;rw[hy]at hy';cases hy';obtain⟨j,j1,j2,j3⟩:=zL C.formed h1 he hy;have:(⟨y.name,y.v⟩:Pn)=p:=by rw[hpe,j3]
    rw[this]at hc;exact⟨y.ctx,hc,j,y,j2,same_iff.2 ⟨by rw[hpe];exact j3.symm,by rw[hpe],rfl⟩⟩
   rcases f2 p ((hmem p).1 hpE)with hc | ⟨e,he,y,hy,hpe⟩
   ·obtain⟨z,hz1,hz2⟩:=hs.ctx p hc;obtain⟨e,he,hel,hez⟩:=uE hz1;exact key e he z hez (by rw[hel,hz2])
   ·exact key e he y hy hpe
  have all:∀l',(∀p∈l',p∈env)->∃ts,targets P env l'=some ts/\∀x∈ts,∃j Y,Bz g x j Y:=by
   intro l';induction l' with
   | nil=>intro _;exact⟨[],rfl,fun x hx=>absurd hx (by simp)⟩
   | cons p r ih=>
    intro hl';obtain⟨c,hc,j,Y,he⟩:=tgt p (hl' p List.mem_cons_self);obtain⟨ts,ht,hte⟩:=ih fun q hq=>hl' q (mC _ hq);refine⟨⟨p.name,p.v,c,[]⟩::ts,?_,fun x hx=>?_⟩
    ·unfold targets;rw[hc];dsimp only;rw[ht];rfl
    ·rcases List.mem_cons.1 hx with rfl | hx
     ·exact⟨j,Y,he⟩
     ·exact hte x hx
  exact all env fun p hp=>hp
end
def Good(g:List Nd)(s:St)(y:Ch):Prop:=∃nd m X,s.nodes[y.node]? =some nd/\Bz g nd m X/\y.pos=lG g X y
def Behind(g:List Nd)(s:St)(y:Ch):Prop:=∃nd m X,s.nodes[y.node]? =some nd/\Bz g nd m X/\y.pos<lG g X y
def St.upto(s:St)(i:Nat):List Nd:=if i<s.k then s.nodes.take (s.ahead[i]?.getD 0)else s.nodes
def Va(g:List Nd)(s:St):Prop:=(∀y∈s.stack,Good g s y)/\∀nd∈s.nodes,∃m X,Bz g nd m X
def Lag(g:List Nd)(s:St):Prop:=∃pre x r,s.stack=pre++x::r/\(∀y∈pre,Good g s y)/\Behind g s x/\∀nd∈s.upto x.node,∃m X,Bz g nd m X
theorem Good.keep{g:List Nd}{s s':St}{y:Ch}(h:Good g s y)(hn:∀nd,s.nodes[y.node]? =some nd->s'.nodes[y.node]? =some nd):Good g s' y:=by
 obtain⟨nd,m,X,h1,h2,h3⟩:=h;exact⟨nd,m,X,hn nd h1,h2,h3⟩
theorem Behind.keep{g:List Nd}{s s':St}{y:Ch}(h:Behind g s y)(hn:∀nd,s.nodes[y.node]? =some nd->s'.nodes[y.node]? =some nd):Behind g s' y:=by
 obtain⟨nd,m,X,h1,h2,h3⟩:=h;exact⟨nd,m,X,hn nd h1,h2,h3⟩
theorem wF{P:Pb}{has:List UInt8->Ve->Bool}{most:Nat}{s:St}(h:Inv P has most s){pre:List Ch}{x:Ch}(hs:s.stack=pre++[x]){i:Nat}(hi:i<=x.node):(s.again pre x).upto i=s.upto i:=by
 have hxk:=h.sk x (by rw[hs];simp);have hk:=qY h hs;unfold St.upto;rw[hk];by_cases hlt:x.node<s.k
 ·obtain⟨a,ha⟩:∃a,s.ahead[x.node]? =some a:=⟨_,gE hlt⟩;have hn:(s.again pre x).nodes=s.nodes.take a:=by unfold St.again;rw[if_pos hlt,ha];rfl
  have hah:(s.again pre x).ahead=s.ahead.take x.node:=by unfold St.again;rw[if_pos hlt]
  rw[hn,hah,if_pos (show i<s.k by omega)];by_cases hi2:i<x.node
  ·rw[if_pos hi2,List.getElem?_take_of_lt hi2];obtain⟨b,hb⟩:∃b,s.ahead[i]? =some b:=⟨_,gE (by unfold St.k at hlt;omega)⟩;rw[hb];show(s.nodes.take a).take b=s.nodes.take b;rw[List.take_take,Nat.min_eq_left (h.am i x.node b a (by omega) hb ha)]
  ·rw[if_neg hi2];have:i=x.node:=by omega
   subst this;rw[ha];rfl
 ·have hn:(s.again pre x).nodes=s.nodes:=by unfold St.again;rw[if_neg hlt]
  have hah:(s.again pre x).ahead=s.ahead:=by unfold St.again;rw[if_neg hlt]
  rw[hn,hah];by_cases hi2:i<x.node
  ·rw[if_pos hi2,if_pos (by omega)]
  ·rw[if_neg hi2,if_neg (by omega)]
theorem kU{P:Pb}{has:List UInt8->Ve->Bool}{most:Nat}{s:St}(h:Inv P has most s){pre:List Ch}{x:Ch}(hs:s.stack=pre++[x]){i:Nat}(hi:i<=x.node){nd:Nd}(hn:s.nodes[i]? =some nd):(s.again pre x).nodes[i]? =some nd:=by
 unfold St.again;split
 ·rename_i hlt
  obtain⟨a,ha⟩:∃a,s.ahead[x.node]? =some a:=⟨_,gE hlt⟩;rw[ha];show(s.nodes.take a)[i]? =some nd;exact iT (by have:=h.ah _ _ ha;omega) hn
 ·exact hn
theorem Dy{P:Pb}{has:List UInt8->Ve->Bool}{most:Nat}{s:St}(h:Inv P has most s){x:Ch}(hx:x∈s.stack){nd:Nd}(hn:s.nodes[x.node]? =some nd):∃w,w∈P.own x.node nd/\kL P x.node nd.ctx w x:=by
 have hm:x∈kS s.stack x.node:=by unfold kS;rw[List.mem_filter];exact⟨hx,by simp⟩
 obtain⟨t,ht,e⟩:=eI.1 hm;obtain⟨nd',w,h1,h2,h3⟩:=h.gr x.node t x (by rw[gE ht,e]);rw[hn]at h1;cases h1;exact⟨w,mG h2,h3⟩
theorem sV{P:Pb}{has:List UInt8->Ve->Bool}(F:P.Fits has)(own_pos:∀i j (x y:Nd),0<i->0<j->x.name=y.name->x.v=y.v->P.own i x=P.own j y){g:List Nd}(C:Checks P has g){most:Nat}{s:St}(hI:Inv P has most s)(hk:s.k<s.nodes.length)(hl:(s.wants P).length<=s.mine.length)
 (h1:∀y∈s.stack,Good g s y)(h2:∀nd∈s.nodes,∃m X,Bz g nd m X):∃ts,targets P (fM s.cur.ctx s.mine) (fM s.cur.ctx s.mine)=some ts/\∀x∈ts,∃j Y,Bz g x j Y:=by
 have hcur:s.nodes[s.k]? =some s.cur:=by unfold St.cur;rw[gE hk];rfl
 obtain⟨m,X,hE⟩:=h2 s.cur (mG hcur);have ho:=Ah F C own_pos (i:=s.k) hE (fun h0=>by rw[h0,hI.n0]at hcur;exact(Option.some.inj hcur).symm) (fun h0=>(hI.ok s.k s.cur h0 hcur).2.1);rw[hI.mine]at hl |-;have hgr:∀(t:Nat) x,(kS s.stack s.k)[t]? =some x->∃w,(P.own s.k s.cur)[t]? =some w/\kL P s.k s.cur.ctx w x:=fun t x hx=>by
  obtain⟨nd,w,a1,a2,a3⟩:=hI.gr s.k t x hx;rw[hcur]at a1;cases a1;exact⟨w,a2,a3⟩
 have hgl:(kS s.stack s.k).length=(P.own s.k s.cur).length:=by
  refine Nat.le_antisymm ?_ hl;refine Decidable.byContradiction fun hn=>?_;obtain⟨w,h2,_⟩:=hgr (P.own s.k s.cur).length _ (gE (by omega));rw[List.getElem?_eq_none nL]at h2;exact absurd h2 (by simp)
 refine Nz F C hE ho hgl hgr fun x hx=>?_;unfold kS at hx;rw[List.mem_filter]at hx;obtain⟨nd,m',X',b1,b2,b3⟩:=h1 x hx.1;have hxk:x.node=s.k:=by simpa using hx.2
 rw[hxk,hcur]at b1;cases b1
 -- one node of the graph is the same
 have hXX:X'=X:=by
  by_cases hmm:m'=m
  ·subst hmm;have:=hE.1;rw[b2.1]at this;exact Option.some.inj this
  ·exfalso;obtain⟨s1,s2,s3⟩:=same_iff.1 hE.2;obtain⟨t1,t2,t3⟩:=same_iff.1 b2.2;rcases Nat.lt_or_gt_of_ne hmm with hlt | hgt
   ·have:=C.formed.diff m m' X X' hlt hE.1 b2.1;rw[same_iff.2 ⟨by rw[<-s1,t1],by rw[<-s2,t2],by rw[<-s3,t3]⟩]at this;exact absurd this (by simp)
   ·have:=C.formed.diff m' m X' X hgt b2.1 hE.1;rw[same_iff.2 ⟨by rw[<-t1,s1],by rw[<-t2,s2],by rw[<-t3,s3]⟩]at this;exact absurd this (by simp)
 rw[<-hXX];exact b3
theorem Ends.unsat_not{P:Pb}{has:List UInt8->Ve->Bool}(F:P.Fits has)(own_pos:∀i j (x y:Nd),0<i->0<j->x.name=y.name->x.v=y.v->P.own i x=P.own j y){g:List Nd}(C:Checks P has g){lim most:Nat}{pt:Pt}{s:St}{d:Nat}{r:Res}
 (h:Ends P lim most pt s d r):Inv P has most s->nE P pt s->((pt≠.back/\Va g s)\/Lag g s)->r≠.err 30:=by
 induction h with
 | push s d r w hw h ih=>
  intro hI ha hL;obtain⟨hk,hf,hp⟩:=ha;have hcur:s.nodes[s.k]? =some s.cur:=by unfold St.cur;rw[gE hk];rfl
  obtain⟨c1,c2,c3⟩:=bV P s.k s.cur.ctx w;refine ih (hI.push hk hw) ⟨hk,fun i hi nd hnd=>?_,fun pre x hx=>?_⟩ ?_
  ·have hik:i<s.k:=hi;show(kS (s.stack++[aK P s.k s.cur.ctx w]) i).length=_;rw[dM,c1,if_neg (by omega),List.append_nil];exact hf i hik nd hnd
  ·obtain⟨rfl,rfl⟩:=cK hx;exact⟨c1,hp⟩
  ·rcases hL with⟨_,h1,h2⟩ | ⟨pre,x,q,h1,h2,h3,h4⟩
   ·obtain⟨m,X,hE⟩:=h2 s.cur (mG hcur);by_cases h0:(aK P s.k s.cur.ctx w).pos=lG g X (aK P s.k s.cur.ctx w)
    ·refine Or.inl ⟨by simp,fun y hy=>?_,h2⟩;rcases List.mem_append.1 (show y∈s.stack++[aK P s.k s.cur.ctx w]from hy)with hy | hy
     ·exact(h1 y hy).keep fun _ h=>h
     ·simp only[mI]at hy;subst hy;exact⟨s.cur,m,X,by rw[c1];exact hcur,hE,h0⟩
    ·refine Or.inr ⟨s.stack,_,[],rfl,fun y hy=>(h1 y hy).keep fun _ h=>h,⟨s.cur,m,X,by rw[c1];exact hcur,hE,by omega⟩,fun nd hnd=>h2 nd ?_⟩;unfold St.upto at hnd;rw[c1,if_neg (show¬s.k<(s.push P w).k from Nat.lt_irrefl _)]at hnd;exact hnd
   ·exact Or.inr ⟨pre,x,q++[aK P s.k s.cur.ctx w],by show s.stack++_=_;rw[h1,List.append_assoc];rfl,fun y hy=>(h2 y hy).keep fun _ h=>h,h3.keep fun _ h=>h,h4⟩
 | bad s d r hl hb h ih=>
  intro hI ha hL;obtain⟨hk,hf,hp⟩:=ha;refine ih hI ⟨hk,fun y hy i hi=>hf i (by have:=hI.sk y hy;omega),hp⟩ (Or.inr ?_);rcases hL with⟨_,h1,h2⟩ | h
  ·exfalso;have hcur:s.nodes[s.k]? =some s.cur:=by unfold St.cur;rw[gE hk];rfl
   obtain⟨ts,hts,_⟩:=sV F own_pos C hI hk hl h1 h2;unfold dD at hb;rw[hts]at hb;dsimp only at hb;split at hb<;>cases hb
  ·exact h
 | many s d hl hb=>intro _ _ _ e;cases e
 | done s d nodes es hl hb hkn=>intro _ _ _ e;cases e
 | on s d r nodes es hl hb hkn h ih=>
  intro hI ha hL;obtain⟨hk,hf,hp⟩:=ha;obtain⟨hI',hfull,hold⟩:=hI.bind F hk hl hp hb;have hlen:=(mY hb).1;have hk1:(s.bind nodes es).k=s.k+1:=by
   show(s.ahead++[s.nodes.length]).length=_;rw[lA,List.length_singleton];rfl
  refine ih hI' ⟨?_,fun i hi nd hnd=>?_,hp⟩ ?_
  ·rw[hk1];show s.k+1<nodes.length;omega
  ·rw[hk1]at hi;have hin:i<s.nodes.length:=by omega
   have hnd':nodes[i]? =some nd:=hnd;rw[hold i _ (gE hin)]at hnd';by_cases hik:i<s.k
   ·exact hf i hik nd (by rw[gE hin];exact hnd')
   ·have:i=s.k:=by omega
    subst this;exact hfull nd (by rw[gE hin];exact hnd')
  ·rcases hL with⟨_,h1,h2⟩ | ⟨pre,x,q,h1,h2,h3,h4⟩
   ·refine Or.inl ⟨by simp,fun y hy=>(h1 y hy).keep (hold y.node),fun nd hnd=>?_⟩;obtain⟨ts,hts,hte⟩:=sV F own_pos C hI hk hl h1 h2;unfold dD at hb;rw[hts]at hb;dsimp only at hb;split at hb
    ·cases hb
    ·rename_i y hy
     obtain⟨rfl,rfl⟩:=pI hb;have hedges:∀x∈ts,x.edges=[]:=fun x hx=>by
      obtain⟨t1,t2⟩:=iL hts;obtain⟨t,ht,rfl⟩:=eI.1 hx;obtain⟨c,hc,_⟩:=t2 t _ (gE (by omega));rw[gE ht]at hc;rw[Option.some.inj hc]
     obtain⟨more,m1,_,m3,_⟩:=nT ts s.nodes y hedges hy hI.diff;have hnd':nd∈y.1:=hnd;rw[m1]at hnd';rcases List.mem_append.1 hnd' with hn | hn
     ·exact h2 nd hn
     ·exact hte nd (m3 nd hn)
   ·refine Or.inr ⟨pre,x,q,h1,fun y hy=>(h2 y hy).keep (hold y.node),h3.keep (hold x.node),fun nd hnd=>h4 nd ?_⟩;have hxk:=hI.sk x (by rw[h1];simp);unfold St.upto at hnd |-;rw[hk1,if_pos (by omega)]at hnd;have hpre:nodes.take s.nodes.length=s.nodes:=by
     apply List.ext_getElem?;intro t;by_cases ht:t<s.nodes.length
     ·rw[List.getElem?_take_of_lt ht,gE ht];exact hold t _ (gE ht)
     ·rw[List.getElem?_eq_none (by rw[List.length_take];omega),List.getElem?_eq_none (by omega)]
    have hnd':nd∈nodes.take ((s.ahead++[s.nodes.length])[x.node]?.getD 0):=hnd;by_cases hxlt:x.node<s.k
    ·rw[if_pos hxlt];obtain⟨a,ha⟩:∃a,s.ahead[x.node]? =some a:=⟨_,gE hxlt⟩;rw[gL hxlt,ha]at hnd';rw[ha];show nd∈s.nodes.take a;have hal:=(hI.ah _ _ ha).2;rw[<-hpre,List.take_take,Nat.min_eq_left hal];exact hnd'
    ·rw[if_neg hxlt];have:x.node=s.k:=by omega
     rw[this,List.getElem?_append_right (show s.ahead.length<=s.k from nL),show s.k-s.ahead.length=0 from Nat.sub_self _]at hnd';rw[<-hpre];exact hnd'
 | budget s pre x hs hx=>intro _ _ _ e;cases e
 | take s d r pre x hs hx hd h ih=>
  intro hI ha hL;obtain⟨hk,hf,hp⟩:=ha;refine ih hI ⟨hk,hf,fun y hy=>?_⟩ ?_
  ·rw[hs]at hy;rcases List.mem_append.1 hy with hy | hy
   ·exact(hp pre x hs).2 y hy
   ·simp only[mI]at hy;subst hy;exact hx
  ·rcases hL with⟨_,h⟩ | h
   ·exact Or.inl ⟨by simp,h⟩
   ·exact Or.inr h
 | pop s d r pre x hs hx h ih=>
  intro hI ha hL;obtain⟨hk,hf,hp⟩:=ha;obtain⟨p1,p2⟩:=hp pre x hs;refine ih (hI.pop hs) ⟨hk,fun y hy i hi nd hnd=>?_,p2⟩ (Or.inr ?_)
  ·have hyk:=hI.sk y (by rw[hs];exact List.mem_append_left _ hy);have:=hf i (by omega) nd hnd;rw[hs,dM,if_neg (by omega),List.append_nil]at this;exact this
  ·have hlt:∀nd m X,s.nodes[x.node]? =some nd->Bz g nd m X->lG g X x<x.many:=fun nd m X hn hE=>by
    obtain⟨w,hw1,hw2⟩:=Dy hI (show x∈s.stack by rw[hs];simp) hn;exact Li F C hE (by
     rw[<-Ah F C own_pos (i:=x.node) hE (fun h0=>by rw[h0,hI.n0]at hn;exact(Option.some.inj hn).symm) (fun h0=>(hI.ok x.node nd h0 hn).2.1)];exact hw1) hw2
   rcases hL with⟨_,h1,h2⟩ | ⟨pre',y,q,h1,h2,h3,h4⟩
   ·exfalso;obtain⟨nd,m,X,g1,g2,g3⟩:=h1 x (by rw[hs];simp);have:=hlt nd m X g1 g2;omega
   ·rcases List.eq_nil_or_concat q with rfl | ⟨q',z,rfl⟩
    ·exfalso;rw[hs]at h1;obtain⟨_,rfl⟩:=cK h1;obtain⟨nd,m,X,g1,g2,g3⟩:=h3;have:=hlt nd m X g1 g2;omega
    ·rw[hs,List.concat_eq_append,show pre'++y::(q'++[z])=(pre'++y::q')++[z] by simp]at h1;obtain⟨h5,_⟩:=cK h1;exact⟨pre',y,q',h5,fun u hu=>(h2 u hu).keep fun _ h=>h,h3.keep fun _ h=>h,h4⟩
 | unsat s d hs=>
  intro _ _ hL;rcases hL with⟨h,_⟩ | ⟨pre,x,q,h1,_⟩
  ·exact absurd rfl h
  ·rw[hs]at h1;exact absurd h1 (by simp)
 | back s d r pre x hs h ih=>
  intro hI ha hL;refine ih (hI.again hs) (nE.again hI ha hs) ?_;have hst:=hI.st;rw[hs,List.pairwise_append]at hst;have hle:∀y∈pre,y.node<=x.node:=fun y hy=>hst.2.2 y hy x (by simp);have hk:=qY hI hs;have keepG:∀y,y.node<=x.node->Good g s y->Good g (s.again pre x) y:=fun y hy h=>h.keep fun nd hn=>kU hI hs hy hn;have keepB:∀y,y.node<=x.node->Behind g s y->Behind g (s.again pre x) y:=fun y hy h=>h.keep fun nd hn=>kU hI hs hy hn;rcases hL with⟨h,_⟩ | ⟨pre',y,q,h1,h2,h3,h4⟩
  ·exact absurd rfl h
  ·rcases List.eq_nil_or_concat q with rfl | ⟨q',z,rfl⟩
   ·rw[hs]at h1;obtain⟨rfl,rfl⟩:=cK h1;have hup:∀nd∈(s.again pre x).nodes,∃m X,Bz g nd m X:=fun nd hnd=>h4 nd (by
     rw[<-wF hI hs nL];unfold St.upto;rw[hk,if_neg (by omega)];exact hnd)
    obtain⟨nd,m,X,g1,g2,g3⟩:=h3;have hpos:lG g X {x with pos:=x.pos+1}=lG g X x:=rfl;by_cases he:x.pos+1=lG g X x
    ·refine Or.inl ⟨by simp,fun u hu=>?_,hup⟩;rw[eO]at hu;rcases List.mem_append.1 hu with hu | hu
     ·exact keepG u (hle u hu) (h2 u hu)
     ·simp only[mI]at hu;subst hu;exact⟨nd,m,X,kU hI hs nL g1,g2,by rw[hpos];exact he⟩
    ·refine Or.inr ⟨pre,{x with pos:=x.pos+1},[],eO s pre x,fun u hu=>keepG u (hle u hu) (h2 u hu),⟨nd,m,X,kU hI hs nL g1,g2,by rw[hpos];show x.pos+1<_;omega⟩,fun nd' hnd'=>hup nd' ?_⟩;unfold St.upto at hnd';rw[hk,if_neg (show¬x.node<x.node by omega)]at hnd';exact hnd'
   ·rw[hs,List.concat_eq_append,show pre'++y::(q'++[z])=(pre'++y::q')++[z] by simp]at h1;obtain⟨h5,h6⟩:=cK h1;subst h6;have hy:y.node<=x.node:=hle y (by rw[h5];simp);refine Or.inr ⟨pre',y,q'++[{x with pos:=x.pos+1}],by rw[eO,h5];simp,fun u hu=>keepG u (hle u (by rw[h5];exact List.mem_append_left _ hu)) (h2 u hu),keepB y hy h3,fun nd hnd=>h4 nd ?_⟩;rw[wF hI hs hy]at hnd;exact hnd
end Top
end
section
open VL
namespace Top
def Ve.str(u:Ve):ByteArray:=VL.V.str u.a u.b u.c
def Ve.txt(u:Ve):List UInt8:=u.str.data.toList
theorem rX(u:Ve):bs u.txt=u.str:=by
 unfold Ve.txt bs;cases u.str;simp
theorem Tt(a b:List UInt8):bs (a++b)=bs a++bs b:=by
 refine ByteArray.ext ?_;unfold bs;rw[ByteArray.data_append];simp
theorem eT(a:List UInt8):(bs a).size=a.length:=by unfold bs;simp[ByteArray.size]
def Sp.txt(x:Sp):List UInt8:=if x.lo=x.hi then x.lo.txt else if x.lo.rank=0/\x.hi.rank=999999999 then [42]else if x.lo.rank=0 then [60,61]++x.hi.txt else if x.hi.rank=999999999 then [62,61]++x.lo.txt else [62,61]++x.lo.txt++[32]++([60,61]++x.hi.txt)
def sJ:List UInt8:=[32,124,124,32]
def kP(l:List Sp):List UInt8:=Go.Lib.join (l.map Sp.txt) sJ
def jF(l:List Sp):List UInt8:=if l=[]then [60,48,46,48,46,48]else kP l
theorem Iq(sep:List UInt8)(x:List UInt8):∀xs:List (List UInt8),Go.Lib.join (xs++[x]) sep=if xs=[]then x else Go.Lib.join xs sep++sep++x
 | []=>by rw[if_pos rfl,List.nil_append,Go.Lib.join_one]
 | y::r=>by
  rw[if_neg (by simp),List.cons_append,Go.Lib.join_cons,Go.Lib.join_cons];unfold Go.Lib.joinTail;rw[List.map_append,List.flatten_append];simp
theorem xG(l:List Sp)(x:Sp):kP (l++[x])=if l=[]then x.txt else kP l++sJ++x.txt:=by
 unfold kP;rw[List.map_append,List.map_singleton,Iq];cases l<;>simp
theorem iK(u:Ve):u.txt.length<=11:=by
 have h1:u.txt.length=u.str.size:=by
  unfold Ve.txt ByteArray.size;simp
 rw[h1];unfold Ve.str;cases h:VL.V.may u.a u.b u.c
 ·rw[VL.V.Ci h];decide
 ·have hb:=VL.V.gU.1 h;have ha:=VL.V.dW hb.1;have hb':=VL.V.dW hb.2.1;have hc':=VL.V.dW hb.2.2;rw[VL.V.yL h];simp[ByteArray.size_append,VL.fZ];omega
theorem Rw(x:Sp):x.txt.length<=27:=by
 have h1:=iK x.lo;have h2:=iK x.hi;unfold Sp.txt;split
 ·omega
 ·split
  ·simp
  ·split
   ·simp;omega
   ·split
    ·simp;omega
    ·simp;omega
theorem uU:∀l:List Sp,(kP l).length<=31*l.length:=by
 intro l;have:∀n (l:List Sp),l.length=n->(kP l).length<=31*l.length:=by
  intro n;induction n with
  | zero=>intro l hl;have:=List.length_eq_zero_iff.1 hl;subst this;simp[kP,Go.Lib.join_nil]
  | succ n ih=>
   intro l hl;have hne:l≠[]:=by intro e;rw[e]at hl;simp at hl
   obtain⟨r,x,e⟩:∃r x,l=r++[x]:=⟨l.dropLast,l.getLast hne,(List.dropLast_concat_getLast hne).symm⟩;subst e;rw[lA,List.length_singleton]at hl;have h1:=ih r (by omega);have h2:=Rw x;rw[xG];split
   ·rw[lA,List.length_singleton];omega
   ·rw[lA,lA,lA,List.length_singleton];have:sJ.length=4:=rfl;omega
 exact this _ l rfl
end Top
end
end Go.Proofs.YtcohlmdnahdnaaaGreatDoor
