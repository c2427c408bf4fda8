/- Packages in memory: that can be read, and in memory of the call's own. No program stands here. -/
import Derived.Test.YtcohlmdnahdnaaaGreatDoorZSrt
namespace Go.Proofs.YtcohlmdnahdnaaaGreatDoor
open Go.RowKit
set_option linter.unusedVariables false
set_option linter.unusedSimpArgs false
set_option maxHeartbeats 16000000
set_option maxRecDepth 100000
namespace Top
def iU(p:Pk)(d1 d2 d3:Value):Value:=.agg #[sv p.name,.int .i64 p.v.a,.int .i64 p.v.b,.int .i64 p.v.c,d1,d2,d3]
structure PkAt(w:World)(B:Nat)(p:Pk)(d1 d2 d3:Value):Prop where
 deps:DpsAt w B d1 p.deps
 peers:DpsAt w B d2 p.peers
 opts:DpsAt w B d3 p.opts
theorem PkAt.below{w w':World}{n B:Nat}{p:Pk}{d1 d2 d3:Value}(h:PkAt w B p d1 d2 d3)(hb:Below n w w')(hB:B<=n):PkAt w' B p d1 d2 d3:=⟨h.deps.below hb hB,h.peers.below hb hB,h.opts.below hb hB⟩
theorem PkAt.mono{w:World}{B B':Nat}{p:Pk}{d1 d2 d3:Value}(h:PkAt w B p d1 d2 d3)(hB:B<=B'):PkAt w B' p d1 d2 d3:=⟨h.deps.mono hB,h.peers.mono hB,h.opts.mono hB⟩
def Qy(l:List Dp):Prop:=l.length<=1000000000/\∀d∈l,d.rg.length<=1000000000
def Om(p:Pk):Prop:=Qy p.deps/\Qy p.peers/\Qy p.opts
structure PkOwn(w:World)(base:Nat)(p:Pk)(d1 d2 d3:Value):Prop where
 deps:∃cs,DpsOwn w base d1 p.deps cs
 peers:∃cs,DpsOwn w base d2 p.peers cs
 opts:∃cs,DpsOwn w base d3 p.opts cs
theorem PkOwn.at{w:World}{base:Nat}{p:Pk}{d1 d2 d3:Value}(h:PkOwn w base p d1 d2 d3):PkAt w w.heap.size p d1 d2 d3:=by
 obtain⟨⟨_,h1⟩,⟨_,h2⟩,⟨_,h3⟩⟩:=h;exact⟨h1.at,h2.at,h3.at⟩
theorem bL{w w':World}{base b':Nat}{e:TypeId}{z:Nat}{v:Value}{n:Nat}{xs:List Value}(h:w.ownsRow base e z v n xs)(hw:∀k,base<=k->k<w.heap.size->w'.heap[k]? =w.heap[k]?)(hb:b'<=base):w'.ownsRow b' e z v n xs:=by
 refine⟨h.1,?_⟩;rcases h.2 with h2 | ⟨g,cap,cur,hv,hg,hh,r⟩
 ·exact Or.inl h2
 ·refine Or.inr ⟨g,cap,cur,hv,by omega,?_,r⟩;rw[hw g hg (by
   refine Decidable.byContradiction fun hk=>?_;rw[Array.getElem?_eq_none (by omega)]at hh;exact absurd hh (by simp))]
  exact hh
theorem DpsOwn.blocks{w w':World}{base b':Nat}{v:Value}{l:List Dp}{cs:List Value}(h:DpsOwn w base v l cs)(hw:∀k,base<=k->k<w.heap.size->w'.heap[k]? =w.heap[k]?)(hb:b'<=base):DpsOwn w' b' v l cs:=
 ⟨h.len,bL h.row hw hb,fun i x c hx hc=>bL (h.rgs i x c hx hc) hw hb⟩
theorem Em{x y:World}{b:Nat}{u4 u5 u6 v4 v5 v6:Value}(hy:y=((x.setCell ⟨b,4,none⟩ v4).setCell ⟨b,5,none⟩ v5).setCell ⟨b,6,none⟩ v6)(h4:x.cell? ⟨b,4,none⟩=some u4)(h5:x.cell? ⟨b,5,none⟩=some u5)(h6:x.cell? ⟨b,6,none⟩=some u6):
 y.cell? ⟨b,4,none⟩=some v4/\y.cell? ⟨b,5,none⟩=some v5/\y.cell? ⟨b,6,none⟩=some v6/\(∀k i,k≠b\/i<4->y.cell? ⟨k,i,none⟩=x.cell? ⟨k,i,none⟩)/\(∀a,y.frozen? a=x.frozen? a)/\Below b x y/\∀k,k≠b->y.heap[k]? =x.heap[k]?:=by
 subst hy;have n1:(⟨b,4,none⟩:Addr)≠⟨b,5,none⟩:=by simp
 have n2:(⟨b,4,none⟩:Addr)≠⟨b,6,none⟩:=by simp
 have n3:(⟨b,5,none⟩:Addr)≠⟨b,6,none⟩:=by simp
 refine⟨?_,?_,?_,fun k i hk=>?_,fun a=>?_,(((bR b x).setCell nL _).setCell nL _).setCell nL _,fun k hk=>?_⟩
 ·rw[cP (h:=n2.symm),cP (h:=n1.symm)];exact World.cell?_setCell_same _ _ _ h4
 ·rw[cP (h:=n3.symm)];exact World.cell?_setCell_same _ _ _ (by rw[cP (h:=n1)];exact h5)
 ·exact World.cell?_setCell_same _ _ _ (by rw[cP (h:=n3),cP (h:=n2)];exact h6)
 ·have hne:∀j,4<=j->(⟨b,j,none⟩:Addr)≠⟨k,i,none⟩:=fun j hj e=>by
   injection e with e1 e2
   omega
  rw[cP (h:=hne 6 (by omega)),cP (h:=hne 5 (by omega)),cP (h:=hne 4 (by omega))]
 ·rw[World.frozen?_setCell,World.frozen?_setCell,World.frozen?_setCell]
 ·rw[Below.heap_setCell _ _ _ _ hk,Below.heap_setCell _ _ _ _ hk,Below.heap_setCell _ _ _ _ hk]
theorem set7{x y:World}{b:Nat}{v0 v1 v2 v3 v4 v5 v6 u0 u1 u2 u3 u4 u5 u6:Value}(hy:y=((((((x.setCell ⟨b,0,none⟩ v0).setCell ⟨b,1,none⟩ v1).setCell ⟨b,2,none⟩ v2).setCell ⟨b,3,none⟩ v3).setCell ⟨b,4,none⟩ v4).setCell ⟨b,5,none⟩ v5).setCell ⟨b,6,none⟩ v6)(h0:x.cell? ⟨b,0,none⟩=some u0)(h1:x.cell? ⟨b,1,none⟩=some u1)(h2:x.cell? ⟨b,2,none⟩=some u2)(h3:x.cell? ⟨b,3,none⟩=some u3)(h4:x.cell? ⟨b,4,none⟩=some u4)(h5:x.cell? ⟨b,5,none⟩=some u5)(h6:x.cell? ⟨b,6,none⟩=some u6):
 (y.cell? ⟨b,0,none⟩=some v0/\y.cell? ⟨b,1,none⟩=some v1/\y.cell? ⟨b,2,none⟩=some v2/\y.cell? ⟨b,3,none⟩=some v3/\y.cell? ⟨b,4,none⟩=some v4/\y.cell? ⟨b,5,none⟩=some v5/\y.cell? ⟨b,6,none⟩=some v6)/\Below b x y/\∀k,k≠b->y.heap[k]? =x.heap[k]?:=by
 subst hy;have ne:∀i j:Nat,i≠j->(⟨b,i,none⟩:Addr)≠⟨b,j,none⟩:=fun i j h e=>h (by injection e);refine⟨⟨?_,?_,?_,?_,?_,?_,?_⟩,(((((((bR b x).setCell nL _).setCell nL _).setCell nL _).setCell nL _).setCell nL _).setCell nL _).setCell nL _,fun k hk=>?_⟩
 ·rw[cP (h:=ne 6 0 (by decide)),cP (h:=ne 5 0 (by decide)),cP (h:=ne 4 0 (by decide)),cP (h:=ne 3 0 (by decide)),cP (h:=ne 2 0 (by decide)),cP (h:=ne 1 0 (by decide))];exact World.cell?_setCell_same _ _ _ h0
 ·rw[cP (h:=ne 6 1 (by decide)),cP (h:=ne 5 1 (by decide)),cP (h:=ne 4 1 (by decide)),cP (h:=ne 3 1 (by decide)),cP (h:=ne 2 1 (by decide))];exact World.cell?_setCell_same _ _ _ (by rw[cP (h:=ne 0 1 (by decide))];exact h1)
 ·rw[cP (h:=ne 6 2 (by decide)),cP (h:=ne 5 2 (by decide)),cP (h:=ne 4 2 (by decide)),cP (h:=ne 3 2 (by decide))];exact World.cell?_setCell_same _ _ _ (by rw[cP (h:=ne 1 2 (by decide)),cP (h:=ne 0 2 (by decide))];exact h2)
 ·rw[cP (h:=ne 6 3 (by decide)),cP (h:=ne 5 3 (by decide)),cP (h:=ne 4 3 (by decide))];exact World.cell?_setCell_same _ _ _ (by rw[cP (h:=ne 2 3 (by decide)),cP (h:=ne 1 3 (by decide)),cP (h:=ne 0 3 (by decide))];exact h3)
 ·rw[cP (h:=ne 6 4 (by decide)),cP (h:=ne 5 4 (by decide))];exact World.cell?_setCell_same _ _ _ (by rw[cP (h:=ne 3 4 (by decide)),cP (h:=ne 2 4 (by decide)),cP (h:=ne 1 4 (by decide)),cP (h:=ne 0 4 (by decide))];exact h4)
 ·rw[cP (h:=ne 6 5 (by decide))];exact World.cell?_setCell_same _ _ _ (by rw[cP (h:=ne 4 5 (by decide)),cP (h:=ne 3 5 (by decide)),cP (h:=ne 2 5 (by decide)),cP (h:=ne 1 5 (by decide)),cP (h:=ne 0 5 (by decide))];exact h5)
 ·exact World.cell?_setCell_same _ _ _ (by rw[cP (h:=ne 5 6 (by decide)),cP (h:=ne 4 6 (by decide)),cP (h:=ne 3 6 (by decide)),cP (h:=ne 2 6 (by decide)),cP (h:=ne 1 6 (by decide)),cP (h:=ne 0 6 (by decide))];exact h6)
 ·rw[Below.heap_setCell _ _ _ _ hk,Below.heap_setCell _ _ _ _ hk,Below.heap_setCell _ _ _ _ hk,Below.heap_setCell _ _ _ _ hk,Below.heap_setCell _ _ _ _ hk,Below.heap_setCell _ _ _ _ hk,Below.heap_setCell _ _ _ _ hk]
theorem Ef{w wb x1 x2 x3 x4:World}{n1 n2 n3:Nat}{p:Pk}{u1 u2 u3:Value}{c1 c2 c3:List Value}(hsz:wb.heap.size=w.heap.size+2)(hbl:Below w.heap.size w wb)
 (b1:Below wb.heap.size wb x1)(b2:Below wb.heap.size wb x2)(b3:Below wb.heap.size wb x3)
 (o1:DpsOwn x1 n1 u1 p.deps c1)(o2:DpsOwn x2 n2 u2 p.peers c2)(o3:DpsOwn x3 n3 u3 p.opts c3)
 (hn1:wb.heap.size<=n1)(hn2:wb.heap.size<=n2)(hn3:wb.heap.size<=n3)
 (k2:Below x1.heap.size x1 x2)(k3:Below x2.heap.size x2 x3)
 (h4:Below w.heap.size x3 x4)(h5:∀k,w.heap.size+2<=k->k<x3.heap.size->x4.heap[k]? =x3.heap[k]?):
 PkOwn x4 w.heap.size p u1 u2 u3/\Below w.heap.size w x4:=by
 have s2:=k2.size;have s3:=k3.size;refine⟨⟨⟨c1,?_⟩,⟨c2,?_⟩,⟨c3,?_⟩⟩,(hbl.trans (b3.mono hbl.size)).trans h4⟩
 ·refine o1.blocks (fun k hk hl=>?_) (by omega);rw[h5 k (by omega) (by omega),k3.block k (by omega),k2.block k hl]
 ·refine o2.blocks (fun k hk hl=>?_) (by omega);rw[h5 k (by omega) (by omega),k3.block k hl]
 ·exact o3.blocks (fun k hk hl=>h5 k (by omega) hl) (by omega)
end Top
section
open Go.Shelf Go.RowKit Go.Lib Go.Sort
open Top
namespace Top
def Uy(x y:Ve):Int:=y.cmp x
theorem ltV:Go.Proofs.ltOf Uy=jW:=rfl
theorem Qp(a b:Ve):a.cmp b<0↔(a.a<b.a\/a.a=b.a/\(a.b<b.b\/a.b=b.b/\a.c<b.c)):=by
 unfold Ve.cmp VL.V.cmp VL.V.or3 VL.V.cmp1;constructor
 ·intro h
  (repeat' split at h)<;>omega
 ·intro h
  (repeat' split)<;>omega
theorem pO(a b:Ve):jW a b=true↔(b.a<a.a\/b.a=a.a/\(b.b<a.b\/b.b=a.b/\b.c<a.c)):=by
 unfold jW;rw[decide_eq_true_iff,Qp]
theorem yJ:SWO jW where
 irrefl x:=by
  cases h:jW x x with
  | false=>rfl
  | true=>rw[pO]at h;omega
 trans x y z h1 h2:=by
  rw[pO]at*;omega
 ntrans x y z h1 h2:=by
  cases h:jW x z with
  | false=>rfl
  | true=>
   have n1:¬jW x y=true:=by rw[h1];simp
   have n2:¬jW y z=true:=by rw[h2];simp
   rw[pO]at*;omega
theorem Ex(x y:Ve)(h1:jW x y=false)(h2:jW y x=false):x=y:=by
 have n1:¬jW x y=true:=by rw[h1];simp
 have n2:¬jW y x=true:=by rw[h2];simp
 rw[pO]at n1 n2;obtain⟨a,b,c⟩:=x;obtain⟨a',b',c'⟩:=y;dsimp only at n1 n2;have h3:a=a':=by omega
 subst h3;have h4:b=b':=by omega
 subst h4;have h5:c=c':=by omega
 subst h5;rfl
def lS(l:List Ve):List Ve:=l.mergeSort fun x y=>!jW y x
theorem nH(l:List Ve):(lS l).length=l.length:=(List.mergeSort_perm _ _).length_eq
theorem Cb{l l':List Ve}(h:l.Perm l'):lS l=lS l':=by
 have tot:∀a b,(!jW b a || !jW a b)=true:=fun a b=>by
  cases h:jW b a with
  | false=>simp
  | true=>simp[yJ.asymmA h]
 have tr:∀a b c,(!jW b a)=true->(!jW c b)=true->(!jW c a)=true:=fun a b c h1 h2=>by
  simp only[Bool.not_eq_true']at h1 h2 |-;exact yJ.ntrans c b a h2 h1
 refine List.Perm.eq_of_pairwise (le:=fun x y=>(!jW y x)=true) (fun a b _ _ h1 h2=>?_) (List.pairwise_mergeSort tr tot _) (List.pairwise_mergeSort tr tot _) (((List.mergeSort_perm _ _).trans h).trans (List.mergeSort_perm _ _).symm);simp only[Bool.not_eq_true']at h1 h2;exact Ex a b h2 h1
end Top
theorem Na(x y:Ve)(W:World):Calls Tryz.prog 126 #[.agg (aI x).toArray,.agg (aI y).toArray] W fun e w'=>e=.returned (.int .i64 (Uy x y))/\∃q os',w'=grow (W.drewN q) os':=by
 obtain⟨a,b,c⟩:=x;obtain⟨a',b',c'⟩:=y;have hcon:=fun W=>VL.Js a' b' c' a b c W;obtain⟨r,hr⟩:∃r,r=Uy ⟨a,b,c⟩ ⟨a',b',c'⟩:=⟨_,rfl⟩;have hcon:∀W,Calls Tryz.prog 78 #[.agg #[.int .i64 a',.int .i64 b',.int .i64 c'],.agg #[.int .i64 a,.int .i64 b,.int .i64 c]] W fun e w'=>e=.returned (.int .i64 r)/\bZ W w':=by rw[hr];exact hcon
 rw[<-hr];have HC:=Hd hcon;clear hcon hr;show Calls Tryz.prog 126 #[.agg #[.int .i64 a,.int .i64 b,.int .i64 c],.agg #[.int .i64 a',.int .i64 b',.int .i64 c']] W _;go_enter Tryz.func126,Tryz.ntmps126;go_wp2_with fail;refine(HC.out _).mono ?_;rintro e w1 ⟨rfl,hg⟩;have HG:Hid (bZ W w1):=Hd ((((bZ.refl W).alloc _).alloc _).trans hg);clear hg;go_wp2;go_returns;exact⟨rfl,HG.out⟩
theorem Qi:∀args w,(callFunc 126 args).run Tryz.prog w=.ok (.enter 126 args) w:=enters_of Tryz.func126 (by kernel_rfl) rfl
theorem Jh{w:World}{base:Nat}{v:Value}{ds:List Ve}(h:w.ownsRow base 50 3 v ds.length (ds.flatMap aI))(hn:ds.length<4611686018427387904):
 Calls Tryz.prog 125 #[v,.func (.func 126) #[] #[]] w fun e w'=>e=.returned (.tuple #[])/\w'.ownsRow base 50 3 v (lS ds).length ((lS ds).flatMap aI)/\w.grownBy w' v.ownBlock:=by
 rcases Nat.eq_zero_or_pos ds.length with h0 | h0
 ·have e1:ds=[]:=List.length_eq_zero_iff.1 h0;subst e1;obtain⟨a,c,rfl⟩:=aC h;have hcon:=AnyF.slices_SortFunc_none (P:=Tryz.prog) {Tryz.sortVer with} a c (.func (.func 126) #[] #[]) w;change Calls Tryz.prog 125 _ _ _ at hcon;refine hcon.mono ?_;rintro e w1 ⟨rfl,rfl⟩;refine⟨rfl,?_,⟨rfl,rfl,rfl,nL,fun _ _ _=>rfl⟩⟩;have:lS []=[]:=List.mergeSort_nil;rw[this];exact h
 ·obtain⟨g,cap,rfl,hg,hbg,hH,hall⟩:=iV oI h h0
  have hcon:=AnyQ.slices_SortFunc (P:=Tryz.prog) Tryz.sortVer 3 Tryz.isAgg50 Tryz.sizeOf50 aI oI Kq Uy (by rw[ltV];exact yJ) 126 #[] g 0 cap ds.toArray w Qi
   (fun m os dk hs x y=>Na x y _) hH hg (by simpa using hn)
  rw[List.size_toArray,ltV]at hcon;change Calls Tryz.prog 125 _ _ _ at hcon;refine hcon.mono ?_;rintro e w1 ⟨rfl,d',n,os,hp1,hs1,rfl⟩;have hd:d'.toList=lS ds:=sorted_unique_holds yJ Ex ds.toArray d' (by simpa using hp1) (by simpa using hs1);have hd2:d'=(lS ds).toArray:=by rw[<-hd]
  subst hd2;have hr:=hall (lS ds) (nH ds) n os;refine⟨rfl,?_,hr.2⟩;rw[nH];have h1:=hr.1;(try rw[nH]at h1);exact h1
end
section
open Top
namespace Top
theorem yD{α:Type}(l:List α)(q:α->Bool)(p:Nat->Bool)(h:∀(i:Nat) x,l[i]? =some x->p i=q x):(List.range l.length).any p=l.any q:=by
 rw[Bool.eq_iff_iff,List.any_eq_true,List.any_eq_true];constructor
 ·rintro⟨i,hi,hp⟩;have hi':=List.mem_range.1 hi;exact⟨l[i],List.getElem_mem hi',by rw[<-h i _ (gE hi')];exact hp⟩
 ·rintro⟨x,hx,hq⟩;obtain⟨i,hi,rfl⟩:=eI.1 hx;exact⟨i,List.mem_range.2 hi,by rw[h i _ (gE hi)];exact hq⟩
end Top
theorem Jj:∀args w,(callFunc 77 args).run Tryz.prog w=.ok (.enter 77 args) w:=fun _ _=>by kernel_rfl
theorem Qe(w:World)(b:Nat)(x:Sp)(v:Ve)(h0:w.cell? ⟨b,0,none⟩=some (.int .i64 v.a))(h1:w.cell? ⟨b,1,none⟩=some (.int .i64 v.b))(h2:w.cell? ⟨b,2,none⟩=some (.int .i64 v.c)):
 Calls Tryz.prog 77 #[.agg ⟨aU x⟩,.pointer (some ⟨b,0,none⟩)] w fun e w'=>e=.returned (.bool (uP x v))/\Below w.heap.size w w':=by
 obtain⟨⟨a1,b1,c1⟩,⟨a2,b2,c2⟩⟩:=x;obtain⟨a,bb,c⟩:=v;dsimp only at h0 h1 h2;have hbl:b<w.heap.size:=by
  refine Decidable.byContradiction fun hh=>?_;unfold World.cell? at h0;rw[Array.getElem?_eq_none (by simpa using hh)]at h0;exact absurd h0 (by simp)
 obtain⟨r1,hr1⟩:∃r,r=VL.V.cmp a1 b1 c1 a bb c:=⟨_,rfl⟩;obtain⟨r2,hr2⟩:∃r,r=VL.V.cmp a bb c a2 b2 c2:=⟨_,rfl⟩;have HC1:Hid (∀W,Calls Tryz.prog 78 #[.agg #[.int .i64 a1,.int .i64 b1,.int .i64 c1],.agg #[.int .i64 a,.int .i64 bb,.int .i64 c]] W fun e w'=>e=.returned (.int .i64 r1)/\Below W.heap.size W w'):=Hd (fun W=>by rw[hr1];exact VL.tL _ _ _ _ _ _ W);have HC2:Hid (∀W,Calls Tryz.prog 78 #[.agg #[.int .i64 a,.int .i64 bb,.int .i64 c],.agg #[.int .i64 a2,.int .i64 b2,.int .i64 c2]] W fun e w'=>e=.returned (.int .i64 r2)/\Below W.heap.size W w'):=Hd (fun W=>by rw[hr2];exact VL.tL _ _ _ _ _ _ W);have HF:Hid (uP ⟨⟨a1,b1,c1⟩,⟨a2,b2,c2⟩⟩ ⟨a,bb,c⟩=(decide (r1<=0)&&decide (r2<=0))):=Hd (by rw[hr1,hr2];rfl);clear hr1 hr2;show Calls Tryz.prog 77 #[.agg #[.int .i64 a1,.int .i64 b1,.int .i64 c1,.int .i64 a2,.int .i64 b2,.int .i64 c2],.pointer (some ⟨b,0,none⟩)] w _
 go_enter Tryz.func77,Tryz.ntmps77;obtain⟨wa,hwa⟩:∃y,y=w.alloc (.cells #[.int .i64 a1,.int .i64 b1,.int .i64 c1,.int .i64 a2,.int .i64 b2,.int .i64 c2] 73):=⟨_,rfl⟩;have hba:Below w.heap.size w wa:=by rw[hwa];exact(bR _ w).alloc nL _
 have hza:wa.heap.size=w.heap.size+1:=by rw[hwa];exact Array.size_push ..
 have g0:(w.alloc (.cells #[.int .i64 a1,.int .i64 b1,.int .i64 c1,.int .i64 a2,.int .i64 b2,.int .i64 c2] 73)).cell? ⟨b,0,none⟩=some (.int .i64 a):=by rw[<-hwa,hba.cell (p:=⟨b,0,none⟩) hbl];exact h0
 have g1:(w.alloc (.cells #[.int .i64 a1,.int .i64 b1,.int .i64 c1,.int .i64 a2,.int .i64 b2,.int .i64 c2] 73)).cell? ⟨b,1,none⟩=some (.int .i64 bb):=by rw[<-hwa,hba.cell (p:=⟨b,1,none⟩) hbl];exact h1
 have g2:(w.alloc (.cells #[.int .i64 a1,.int .i64 b1,.int .i64 c1,.int .i64 a2,.int .i64 b2,.int .i64 c2] 73)).cell? ⟨b,2,none⟩=some (.int .i64 c):=by rw[<-hwa,hba.cell (p:=⟨b,2,none⟩) hbl];exact h2
 have HG:Hid (∀W,Below wa.heap.size wa W->(W.cell? ⟨b,0,none⟩=some (.int .i64 a)/\W.cell? ⟨b,1,none⟩=some (.int .i64 bb)/\W.cell? ⟨b,2,none⟩=some (.int .i64 c))/\W.cell? ⟨w.heap.size,3,none⟩=some (.int .i64 a2)/\W.cell? ⟨w.heap.size,4,none⟩=some (.int .i64 b2)/\W.cell? ⟨w.heap.size,5,none⟩=some (.int .i64 c2)):=Hd (fun W hW=>by
  have hl:b<wa.heap.size:=by omega
  have hs:w.heap.size<wa.heap.size:=by omega
  refine⟨⟨?_,?_,?_⟩,?_,?_,?_⟩
  ·rw[hW.cell (p:=⟨b,0,none⟩) hl,hwa];exact g0
  ·rw[hW.cell (p:=⟨b,1,none⟩) hl,hwa];exact g1
  ·rw[hW.cell (p:=⟨b,2,none⟩) hl,hwa];exact g2
  ·rw[hW.cell (p:=⟨w.heap.size,3,none⟩) hs,hwa];exact World.cell?_alloc_at _ _ _ _ rfl
  ·rw[hW.cell (p:=⟨w.heap.size,4,none⟩) hs,hwa];exact World.cell?_alloc_at _ _ _ _ rfl
  ·rw[hW.cell (p:=⟨w.heap.size,5,none⟩) hs,hwa];exact World.cell?_alloc_at _ _ _ _ rfl)
 have HWA:=Hd hwa;clear hwa h0 h1 h2;by_cases hq:r1<=0
 ·go_wp2_with fail;rw[<-HWA.out];refine(HC1.out _).mono ?_;rintro e w2 ⟨rfl,hb2⟩;obtain⟨⟨d0,d1,d2⟩,d3,d4,d5⟩:=HG.out w2 hb2;have hb2':=hba.trans (hb2.mono hba.size);clear g0 g1 g2;go_wp2_with fail;refine(HC2.out _).mono ?_;rintro e w3 ⟨rfl,hb3⟩;go_wp2;go_returns;exact⟨by rw[HF.out];simp[hq],hb2'.trans (hb3.mono hb2'.size)⟩
 ·go_wp2_with fail;rw[<-HWA.out];refine(HC1.out _).mono ?_;rintro e w2 ⟨rfl,hb2⟩;have hb2':=hba.trans (hb2.mono hba.size);clear g0 g1 g2;have hq2:0<r1:=by omega
  go_wp2;go_returns;exact⟨by rw[HF.out,decide_eq_false (show¬r1<=0 by omega)];rfl,hb2'⟩
theorem qO(w:World)(v:Value)(l:List Sp)(u:Ve)(h:iH w w.heap.size v l)(hn:l.length<=4611686018427387904):
 Calls Tryz.prog 36 #[v,wM u] w fun e w'=>e=.returned (.bool (gI l u))/\Below w.heap.size w w':=by
 have HM:=Hd (fun W (hW:Below w.heap.size w W)=>nJ W v l ((RowZ.below h hW nL).mono hW.size) hn);have HV:=Hd (fun W=>VL.nR u.a u.b u.c W)
 have HC:Hid (∀W b,Below w.heap.size w W->W.cell? ⟨b,0,none⟩=some (.int .i64 u.a)->W.cell? ⟨b,1,none⟩=some (.int .i64 u.b)->W.cell? ⟨b,2,none⟩=some (.int .i64 u.c)->b<W.heap.size->
  Calls Tryz.prog 76 #[v,.func (.func 77) #[] #[.pointer (some ⟨b,0,none⟩)]] W fun e w'=>e=.returned (.bool (l.any fun x=>uP x u))/\Below W.heap.size W w'):=Hd (fun W b hW h0 h1 h2 hb=>by
  have hc:=vT W v (l.map aU) (fun i=>match l[i]? with | some x=>uP x u | none=>false) 77 #[.pointer (some ⟨b,0,none⟩)] Jj ((RowZ.below h hW nL).mono hW.size) (fun x hx=>by
   obtain⟨y,_,rfl⟩:=List.mem_map.1 hx;rfl) (by rw[lM];exact hn) (fun i x hx W' hW'=>by
   rw[gM]at hx;cases hl:l[i]? with
   | none=>rw[hl]at hx;simp at hx
   | some y=>
    rw[hl]at hx;simp only[Option.map_some,iS]at hx;subst hx;dsimp only;exact Qe W' b y u (by rw[hW'.cell (p:=⟨b,0,none⟩) hb];exact h0) (by rw[hW'.cell (p:=⟨b,1,none⟩) hb];exact h1) (by rw[hW'.cell (p:=⟨b,2,none⟩) hb];exact h2))
  rw[lM,yD l (fun x=>uP x u) _ (fun i x hx=>by rw[hx])]at hc;exact hc)
 obtain⟨m1,hm1⟩:∃m,m=dE l:=⟨_,rfl⟩;obtain⟨m2,hm2⟩:∃m,m=VL.V.may u.a u.b u.c:=⟨_,rfl⟩;obtain⟨m3,hm3⟩:∃m,m=l.any fun x=>uP x u:=⟨_,rfl⟩;rw[<-hm1]at HM;rw[<-hm2]at HV;rw[<-hm3]at HC;have HF:Hid (gI l u=(m1&&(m2&&m3))):=Hd (by rw[hm1,hm2,hm3];rfl);obtain⟨a,b,c⟩:=u;dsimp only at HV HC;clear hm1 hm2 hm3 h hn;show Calls Tryz.prog 36 #[v,.agg #[.int .i64 a,.int .i64 b,.int .i64 c]] w _;go_enter Tryz.func36,Tryz.ntmps36;go_wp2_with fail;refine(HM.out _ (by go_grown)).mono ?_;rintro e w1 ⟨rfl,hb1⟩;have hb1':Below w.heap.size w w1:=Below.trans (by go_grown) (hb1.mono (by simp));have hz1:w.heap.size<w1.heap.size:=by have:=hb1.size;simp at this;omega
 have HD:Hid (∀W,Below w1.heap.size w1 W->W.cell? ⟨w.heap.size,0,none⟩=some (.int .i64 a)/\W.cell? ⟨w.heap.size,1,none⟩=some (.int .i64 b)/\W.cell? ⟨w.heap.size,2,none⟩=some (.int .i64 c)):=Hd (fun W hW=>by
  refine⟨?_,?_,?_⟩
  ·rw[hW.cell (p:=⟨w.heap.size,0,none⟩) hz1,hb1.cell (p:=⟨w.heap.size,0,none⟩) (by simp)];exact World.cell?_alloc_at _ _ _ _ rfl
  ·rw[hW.cell (p:=⟨w.heap.size,1,none⟩) hz1,hb1.cell (p:=⟨w.heap.size,1,none⟩) (by simp)];exact World.cell?_alloc_at _ _ _ _ rfl
  ·rw[hW.cell (p:=⟨w.heap.size,2,none⟩) hz1,hb1.cell (p:=⟨w.heap.size,2,none⟩) (by simp)];exact World.cell?_alloc_at _ _ _ _ rfl)
 obtain⟨d0,d1,d2⟩:=HD.out w1 (bR _ _);clear hb1;cases m1
 ·go_wp2;go_returns;exact⟨by rw[HF.out];rfl,hb1'⟩
 ·go_wp2_with fail;refine(HV.out _).mono ?_;rintro e w2 ⟨rfl,hb2⟩;obtain⟨d0,d1,d2⟩:=HD.out w2 hb2;have hb2':=hb1'.trans (hb2.mono hb1'.size);have hz2:w.heap.size<w2.heap.size:=by have:=hb2.size;omega
  cases m2
  ·go_wp2;go_returns;exact⟨by rw[HF.out];rfl,hb2'⟩
  ·have HCC:=Hd (HC.out w2 w.heap.size hb2' d0 d1 d2 hz2);clear hb2;go_wp2_with fail;refine HCC.out.mono ?_;rintro e w3 ⟨rfl,hb3⟩;go_wp2;go_returns;exact⟨by rw[HF.out];rfl,hb2'.trans (hb3.mono hb2'.size)⟩
end
section
open Top
namespace Top
theorem mD{α:Type}{f:α->List UInt8}:∀ {l:List α},(∀(j:Nat) (x y:α),l[j]? =some x->l[j+1]? =some y->bytesBefore (f x) (f y)=true)->bM f l
 | [],_=>List.Pairwise.nil
 | [x],_=>List.pairwise_singleton _ _
 | x::y::r,h=>by
  have hr:bM f (y::r):=mD fun j a b ha hb=>h (j+1) a b (by simpa using ha) (by simpa using hb);have hxy:=h 0 x y rfl rfl;refine List.pairwise_cons.2 ⟨fun z hz=>?_,hr⟩;rcases List.mem_cons.1 hz with rfl | hz
  ·exact hxy
  ·exact rZ hxy ((List.pairwise_cons.1 hr).1 z hz)
def Says(e:Ending)(p:Prop):Prop:=∃b:Bool,e=.returned (.bool b)/\(b=true↔p)
theorem Says.yes{p:Prop}(h:p){e:Ending}(he:e=.returned (.bool true)):Says e p:=⟨true,he,by simp[h]⟩
theorem Says.no{p:Prop}(h:¬p){e:Ending}(he:e=.returned (.bool false)):Says e p:=⟨false,he,by simp[h]⟩
theorem zY{α:Type}{f:α->List UInt8}{l:List α}(h:bM f l){j:Nat}{x y:α}(hx:l[j]? =some x)(hy:l[j+1]? =some y):bytesBefore (f x) (f y)=true:=by
 obtain⟨hj,rfl⟩:=gS hx;obtain⟨hk,rfl⟩:=gS hy;exact List.pairwise_iff_getElem.1 h j (j+1) hj hk (by omega)
end Top
theorem Hf(w:World)(v:Value)(l:List Pn)(h:bN w w.heap.size v l)(hn:l.length<=4611686018427387904):
 Calls Tryz.prog 48 #[v] w fun e w'=>Says e (bM (·.name) l)/\∃m,w'=w.drewN m:=by
 obtain⟨a1,c1,hv⟩:=h.form;obtain⟨N,hN⟩:∃N,N=l.length:=⟨_,rfl⟩;rw[<-hN]at hv hn;have HN:=Hd hN;have HA:=Hd h;subst hv;clear h hN;go_enter Tryz.func48,Tryz.ntmps48;go_wp2;go_loopw [3] (fun p wr=>∃k m:Nat,p=.int .i64 ((k:Int)+1)/\(k+1<=N\/k=0)/\(∀(j:Nat) (x y:Pn),j<k->l[j]? =some x->l[j+1]? =some y->bytesBefore x.name y.name=true)/\wr=w.drewN m) (fun p _=>N+1-(intOf p).toNat);case atStart=>exact⟨0,0,rfl,by omega,fun j x y h=>absurd h (by omega),rfl⟩
 case round=>
  obtain⟨k,m,rfl,hk,hall,rfl⟩:=hrel;have HALL:=Hd hall;clear hall;by_cases hkN:k+1<N
  ·obtain⟨x,hx⟩:∃x,l[k]? =some x:=⟨_,gE (by have:=HN.out;omega)⟩;obtain⟨y,hy⟩:∃x,l[k+1]? =some x:=⟨_,gE (by have:=HN.out;omega)⟩;obtain⟨bk,o,cap,hve,hcap,hbk,hat⟩:=HA.out.at (by have:=HN.out;omega);rw[<-HN.out]at hve;cases hve;obtain⟨e0,_⟩:=hat k x hx;obtain⟨f0,_⟩:=hat (k+1) y hy;have HX:=Hd hx;have HY:=Hd hy;obtain⟨nx,hnx⟩:∃n,n=x.name:=⟨_,rfl⟩;obtain⟨ny,hny⟩:∃n,n=y.name:=⟨_,rfl⟩;rw[<-hnx]at e0;rw[<-hny]at f0;unfold sv at e0 f0;have HNX:=Hd hnx;have HNY:=Hd hny;clear hx hy hat hnx hny hcap hk;have q1:(k:Int)+1<(N:Int):=by omega
   have q2:(k:Int)<(N:Int):=by omega
   have r2:((k:Int)+1).toNat=k+1:=by omega
   cases hbf:bytesBefore nx ny
   ·have HF:Hid (¬bM (fun p:Pn=>p.name) l):=Hd (fun hr=>by
     have:=zY hr HX.out HY.out;rw[<-HNX.out,<-HNY.out,hbf]at this;exact absurd this (by simp))
    have hq1:Op.bytesLess (bs nx).toList (bs ny).toList=false:=by rw[aA,aA,Lock.vZ];exact hbf
    clear hbf;go_wp2;go_quiet (fail);go_wp2;go_returns;exact⟨Says.no HF.out rfl,_,by first | rfl | rw[World.drewN_drewN]⟩
   ·have HNXT:Hid (∀(j:Nat) (x y:Pn),j<k+1->l[j]? =some x->l[j+1]? =some y->bytesBefore x.name y.name=true):=Hd (fun j x' y' hj hx' hy'=>by
     rcases Nat.lt_or_ge j k with h | h
     ·exact HALL.out j x' y' h hx' hy'
     ·have:j=k:=by omega
      subst this;rw[HX.out]at hx';rw[HY.out]at hy';cases hx';cases hy';rw[<-HNX.out,<-HNY.out];exact hbf)
    have hq1:Op.bytesLess (bs nx).toList (bs ny).toList=true:=by rw[aA,aA,Lock.vZ];exact hbf
    clear hbf;go_wp2;go_quiet (fail);go_wp2;go_roundw;case rel=>exact⟨k+1,_,by go_num,by omega,HNXT.out,by first | rfl | rw[World.drewN_drewN]⟩
    case measure=>simp[intOf];omega
  ·have HF:Hid (bM (fun p:Pn=>p.name) l):=Hd (mD fun j x y hx hy=>HALL.out j x y (by have:=(gS hy).1;have:=HN.out;omega) hx hy);have q1:¬(k:Int)+1<(N:Int):=by omega
   go_wp2;go_returns;exact⟨Says.yes HF.out rfl,_,rfl⟩
def Top.ndV(y:Nd)(c d:Value):Value:=.agg #[sv y.name,.int .i64 y.v.a,.int .i64 y.v.b,.int .i64 y.v.c,c,d]
namespace Top
def Gc(e:Ending)(r:Option Nd):Prop:=∃(y:Nd) (c d:Value) (b:Bool),e=.returned (.tuple #[ndV y c d,.bool b])/\r=if b then some y else none
theorem Gc.yes{r:Option Nd}{y:Nd}{c d:Value}(h:r=some y){e:Ending}(he:e=.returned (.tuple #[ndV y c d,.bool true])):Gc e r:=⟨y,c,d,true,he,by simp[h]⟩
theorem Gc.no{r:Option Nd}(h:r=none){e:Ending}(he:e=.returned (.tuple #[ndV nd0 (.slice none 0 0) (.slice none 0 0),.bool false])):Gc e r:=⟨nd0,_,_,false,he,by simp[h]⟩
theorem Qh{l:List Eg}{n:List UInt8}{k:Nat}{x:Eg}(hx:l[k]? =some x)(hn:x.label=n)(h:∀(j:Nat) y,j<k->l[j]? =some y->y.label≠n):(l.find? fun e=>e.label==n)=some x:=by
 induction l generalizing k with
 | nil=>simp at hx
 | cons a r ih=>
  cases k with
  | zero=>
   simp only[gZ,iS]at hx;subst hx;rw[List.find?_cons,beq_iff_eq.2 hn]
  | succ k=>
   rw[List.find?_cons,beq_eq_false_iff_ne.2 (h 0 a (by omega) rfl)];exact ih (by simpa using hx) fun j y hj hy=>h (j+1) y (by omega) (by simpa using hy)
theorem zK{l:List Eg}{n:List UInt8}(h:∀(j:Nat) y,l[j]? =some y->y.label≠n):(l.find? fun e=>e.label==n)=none:=by
 rw[List.find?_eq_none];intro x hx;obtain⟨j,hj,rfl⟩:=eI.1 hx;simpa using h j _ (gE hj)
end Top
end
section
open Top
namespace Top
theorem xD(x y:Nd):bO x y=(decide (x.name=y.name)&&(VL.V.same x.v.a x.v.b x.v.c y.v.a y.v.b y.v.c&&decide (x.ctx=y.ctx))):=by
 rw[Bool.eq_iff_iff,same_iff];obtain⟨n,⟨a,b,c⟩,cx,es⟩:=x;obtain⟨n',⟨a',b',c'⟩,cx',es'⟩:=y;simp only[Bool.and_eq_true,decide_eq_true_eq,VL.V.same,beq_iff_eq,Ve.mk.injEq]
theorem Qk(x y:Nd):decide (x=y)=(decide (x.name=y.name)&&(VL.V.same x.v.a x.v.b x.v.c y.v.a y.v.b y.v.c&&(decide (x.ctx=y.ctx)&&decide (x.edges=y.edges)))):=by
 rw[Bool.eq_iff_iff];obtain⟨n,⟨a,b,c⟩,cx,es⟩:=x;obtain⟨n',⟨a',b',c'⟩,cx',es'⟩:=y;simp only[Bool.and_eq_true,decide_eq_true_eq,VL.V.same,beq_iff_eq,Ve.mk.injEq,Nd.mk.injEq]
end Top
theorem Bf:∀args w,(callFunc 97 args).run Tryz.prog w=.ok (.enter 97 args) w:=fun _ _=>by kernel_rfl
/-- The test of Find: the node that is asked for lies in three boxes. -/
theorem Jg(w:World)(b1 b2 b3:Nat)(t x:Nd)(a d:Option Addr)(c c':Nat)(e:Value)(hc:bN w w.heap.size (.slice a x.ctx.length c) x.ctx)(hd:bN w w.heap.size (.slice d t.ctx.length c') t.ctx)(hn:x.ctx.length<=1000000000)(hn':t.ctx.length<=1000000000)
 (k1:w.cell? ⟨b1,0,none⟩=some (.string (bs t.name)))(k2:w.cell? ⟨b2,0,none⟩=some (.int .i64 t.v.a))(k3:w.cell? ⟨b2,1,none⟩=some (.int .i64 t.v.b))(k4:w.cell? ⟨b2,2,none⟩=some (.int .i64 t.v.c))(k5:w.cell? ⟨b3,0,none⟩=some (.slice d t.ctx.length c'))(hb1:b1<w.heap.size)(hb2:b2<w.heap.size)(hb3:b3<w.heap.size):
 Calls Tryz.prog 97 #[.agg #[sv x.name,.int .i64 x.v.a,.int .i64 x.v.b,.int .i64 x.v.c,.slice a x.ctx.length c,e],.pointer (some ⟨b1,0,none⟩),.pointer (some ⟨b2,0,none⟩),.pointer (some ⟨b3,0,none⟩)] w fun e w'=>e=.returned (.bool (bO x t))/\Below w.heap.size w w':=by
 have HR:=Hd (xD x t);obtain⟨nm,⟨va,vb,vc⟩,cx,es⟩:=x;obtain⟨nm',⟨va',vb',vc'⟩,cx',es'⟩:=t;dsimp only at*;obtain⟨N,hN⟩:∃N,N=cx.length:=⟨_,rfl⟩;obtain⟨M,hM⟩:∃N,N=cx'.length:=⟨_,rfl⟩;have HE:Hid (∀W,Below w.heap.size w W->Calls Tryz.prog 45 #[.slice a N c,.slice d M c'] W fun e w'=>e=.returned (.bool (decide (cx=cx')))/\∃m,w'=W.drewN m):=Hd (fun W hW=>by
  rw[hN,hM];exact jR W _ _ cx cx' ((RowZ.below hc hW nL).mono hW.size) ((RowZ.below hd hW nL).mono hW.size) (by omega) (by omega))
 rw[<-hN]at hn |-;rw[<-hM]at hn' k5;have hbw:Below w.heap.size w (w.alloc (.cells #[.string (bs nm),.int .i64 va,.int .i64 vb,.int .i64 vc,.slice a N c,e] 57)):=(bR _ w).alloc nL _;have k1:=(hbw.cell (p:=⟨b1,0,none⟩) hb1).trans k1;have k2:=(hbw.cell (p:=⟨b2,0,none⟩) hb2).trans k2;have k3:=(hbw.cell (p:=⟨b2,1,none⟩) hb2).trans k3;have k4:=(hbw.cell (p:=⟨b2,2,none⟩) hb2).trans k4;have k5:=(hbw.cell (p:=⟨b3,0,none⟩) hb3).trans k5;have HBW:=Hd hbw;clear hc hd hN hM hbw;unfold sv;cases h1:decide (nm=nm')
 ·rw[h1]at HR;have hq:((bs nm).toList==(bs nm').toList)=false:=by rw[aA,aA];simpa using h1
  have hq2:¬(bs nm).toList=(bs nm').toList:=by rw[aA,aA];simpa using h1
  clear h1;go_enter Tryz.func97,Tryz.ntmps97;go_wp2;go_returns;exact⟨by rw[HR.out];rfl,HBW.out⟩
 ·rw[h1]at HR;have hq:((bs nm).toList==(bs nm').toList)=true:=by rw[aA,aA];simpa using h1
  have hq2:(bs nm).toList=(bs nm').toList:=by rw[aA,aA];simpa using h1
  clear h1;cases h2:VL.V.same va vb vc va' vb' vc'
  ·rw[h2]at HR;go_enter Tryz.func97,Tryz.ntmps97;go_wp2;go_returns;exact⟨by rw[HR.out];rfl,HBW.out⟩
  ·rw[h2]at HR;go_enter Tryz.func97,Tryz.ntmps97;go_wp2_with fail;refine(HE.out _ HBW.out).mono ?_;rintro e w' ⟨rfl,m,rfl⟩;go_wp2;go_returns;exact⟨by rw[HR.out];rfl,VL.below_drewN HBW.out m⟩
namespace Top
theorem Jf{l:List Nd}{p:Nd->Bool}{q:Nat->Bool}(h:∀(i:Nat) x,l[i]? =some x->q i=p x){k:Nat}{x:Nd}(hx:l[k]? =some x)(hp:p x=true):aN q l.length=(k:Int)↔∀(j:Nat) y,j<k->l[j]? =some y->p y=false:=by
 have hk:=(gS hx).1;constructor
 ·intro hf j y hj hy;cases hpy:p y
  ·rfl
  ·exfalso;have:∃i,i<=j/\q i=true/\∀t,t<i->q t=false:=by
    have hq:q j=true:=by rw[h j y hy];exact hpy
    clear hf hy hpy hj;induction j using Nat.strongRecOn with
    | _ j ih=>
     by_cases hex:∃t,t<j/\q t=true
     ·obtain⟨t,ht,hqt⟩:=hex;obtain⟨i,h1,h2,h3⟩:=ih t ht hqt;exact⟨i,by omega,h2,h3⟩
     ·refine⟨j,nL,hq,fun t ht=>?_⟩;cases hqt:q t
      ·rfl
      ·exact absurd ⟨t,ht,hqt⟩ hex
   obtain⟨i,h1,h2,h3⟩:=this;rw[bH (by omega) h2 h3]at hf;omega
 ·intro hall;refine bH hk (by rw[h k x hx];exact hp) fun j hj=>?_;have hy:l[j]? =some (l[j]'(by omega)):=gE (by omega);rw[h j _ hy];exact hall j _ hj hy
def nW(g:List Nd)(t:Nd):Int:=aN (fun i=>match g[i]? with | some x=>bO x t | none=>false) g.length
end Top
theorem Mx(w:World)(v:Value)(g:List Nd)(h:NdsAt w w.heap.size v g)(hn:g.length<=1000000000)(hz:∀x∈g,x.ctx.length<=1000000000)(t:Nd)(d:Option Addr)(c':Nat)(hd:bN w w.heap.size (.slice d t.ctx.length c') t.ctx)(hn':t.ctx.length<=1000000000):
 Calls Tryz.prog 49 #[.agg #[v],.string (bs t.name),wM t.v,.slice d t.ctx.length c'] w fun e w'=>e=.returned (.int .i64 (nW g t))/\Below w.heap.size w w':=by
 obtain⟨cs,h1,h2,h3⟩:=h.is;have hl:(List.zipWith aP g cs).length=g.length:=by rw[List.length_zipWith,h1,Nat.min_self]
 have HC:Hid (∀W b1 b2 b3,Below w.heap.size w W->W.cell? ⟨b1,0,none⟩=some (.string (bs t.name))->W.cell? ⟨b2,0,none⟩=some (.int .i64 t.v.a)->W.cell? ⟨b2,1,none⟩=some (.int .i64 t.v.b)->W.cell? ⟨b2,2,none⟩=some (.int .i64 t.v.c)->W.cell? ⟨b3,0,none⟩=some (.slice d t.ctx.length c')->b1<W.heap.size->b2<W.heap.size->b3<W.heap.size->
  Calls Tryz.prog 43 #[v,.func (.func 97) #[] #[.pointer (some ⟨b1,0,none⟩),.pointer (some ⟨b2,0,none⟩),.pointer (some ⟨b3,0,none⟩)]] W fun e w'=>e=.returned (.int .i64 (nW g t))/\Below W.heap.size W w'):=Hd (fun W b1 b2 b3 hW k1 k2 k3 k4 k5 l1 l2 l3=>by
  have hc:=sZ W v (List.zipWith aP g cs) (fun i=>match g[i]? with | some x=>bO x t | none=>false) 97 #[.pointer (some ⟨b1,0,none⟩),.pointer (some ⟨b2,0,none⟩),.pointer (some ⟨b3,0,none⟩)] Bf ((h2.below hW nL).mono hW.size) (fun x hx=>by
   obtain⟨i,hi,rfl⟩:=eI.1 hx;rw[List.getElem_zipWith];rfl) (by rw[hl];omega) (fun i x hx W' hW'=>by
   have hi:=(gS hx).1;rw[hl]at hi;have hgx:g[i]? =some (g[i]'hi):=gE hi;have hcx:cs[i]? =some (cs[i]'(by omega)):=gE (by omega);have hxe:x=aP (g[i]'hi) (cs[i]'(by omega)):=by
    rw[List.getElem?_zipWith,hgx,hcx]at hx;exact(Option.some.inj hx).symm
   obtain⟨hp,he⟩:=h3 i _ _ hgx hcx;obtain⟨a,c,e2⟩:=hp.form;rw[e2]at hp;have hWW:=hW.trans (hW'.mono hW.size)
   have:=Jg W' b1 b2 b3 t (g[i]'hi) a d c c' (cs[i]'(by omega)).2 ((RowZ.below hp hWW nL).mono hWW.size) ((RowZ.below hd hWW nL).mono hWW.size) (hz _ (List.getElem_mem hi)) hn'
    ((hW'.cell (p:=⟨b1,0,none⟩) l1).trans k1) ((hW'.cell (p:=⟨b2,0,none⟩) l2).trans k2) ((hW'.cell (p:=⟨b2,1,none⟩) l2).trans k3) ((hW'.cell (p:=⟨b2,2,none⟩) l2).trans k4) ((hW'.cell (p:=⟨b3,0,none⟩) l3).trans k5) (by have:=hW'.size;omega) (by have:=hW'.size;omega) (by have:=hW'.size;omega)
   rw[hxe];unfold aP;rw[e2];rw[hgx];exact this)
  rw[hl]at hc;exact hc)
 obtain⟨nm,⟨va,vb,vc⟩,cx,es⟩:=t;unfold wM;obtain⟨r,hr⟩:∃r,r=nW g ⟨nm,⟨va,vb,vc⟩,cx,es⟩:=⟨_,rfl⟩;rw[<-hr]at HC |-;dsimp only at*;obtain⟨M,hM⟩:∃N,N=cx.length:=⟨_,rfl⟩;rw[<-hM]at HC hn' |-;obtain⟨aa,cap,hv⟩:=h.form;obtain⟨N,hN⟩:∃N,N=g.length:=⟨_,rfl⟩;rw[<-hN]at hv;subst hv;clear h h1 h2 h3 hd hM hr hz hl hN;go_enter Tryz.func49,Tryz.ntmps49;go_wp2_with fail;refine(HC.out _ _ _ _ (((((bR _ w).alloc nL _).alloc (by simp) _).alloc (by simp;omega) _).alloc (by simp;omega) _) (by repeat (first | exact aB (by simp) rfl | refine(aD (by simp;done)).trans ?_ | refine(aD (by simp;omega)).trans ?_)) (by repeat (first | exact aB (by simp) rfl | refine(aD (by simp;done)).trans ?_ | refine(aD (by simp;omega)).trans ?_)) (by repeat (first | exact aB (by simp) rfl | refine(aD (by simp;done)).trans ?_ | refine(aD (by simp;omega)).trans ?_)) (by repeat (first | exact aB (by simp) rfl | refine(aD (by simp;done)).trans ?_ | refine(aD (by simp;omega)).trans ?_)) (by repeat (first | exact aB (by simp) rfl | refine(aD (by simp;done)).trans ?_ | refine(aD (by simp;omega)).trans ?_)) (by simp) (by simp) (by simp)).mono ?_
 rintro e w' ⟨rfl,hb⟩;go_wp2;go_returns;exact⟨rfl,(((((bR _ w).alloc nL _).alloc (by simp) _).alloc (by simp;omega) _).alloc (by simp;omega) _).trans (hb.mono (by simp;omega))⟩
theorem yZ(w:World)(x t:Nd)(a d a2 d2:Option Addr)(c c' k k':Nat)(hc:bN w w.heap.size (.slice a x.ctx.length c) x.ctx)(hd:bN w w.heap.size (.slice d t.ctx.length c') t.ctx)(he:nD w w.heap.size (.slice a2 x.edges.length k) x.edges)(hf:nD w w.heap.size (.slice d2 t.edges.length k') t.edges)
 (hn:x.ctx.length<=1000000000)(hn':t.ctx.length<=1000000000)(hm:x.edges.length<=1000000000)(hm':t.edges.length<=1000000000):
 Calls Tryz.prog 26 #[.agg #[sv x.name,.int .i64 x.v.a,.int .i64 x.v.b,.int .i64 x.v.c,.slice a x.ctx.length c,.slice a2 x.edges.length k],.agg #[sv t.name,.int .i64 t.v.a,.int .i64 t.v.b,.int .i64 t.v.c,.slice d t.ctx.length c',.slice d2 t.edges.length k']] w fun e w'=>e=.returned (.bool (decide (x=t)))/\Below w.heap.size w w':=by
 have HR:=Hd (Qk x t);obtain⟨nm,⟨va,vb,vc⟩,cx,es⟩:=x;obtain⟨nm',⟨va',vb',vc'⟩,cx',es'⟩:=t;dsimp only at*
 have HE:Hid (∀W,Below w.heap.size w W->Calls Tryz.prog 45 #[.slice a cx.length c,.slice d cx'.length c'] W fun e w'=>e=.returned (.bool (decide (cx=cx')))/\∃m,w'=W.drewN m):=Hd (fun W hW=> 
  jR W _ _ cx cx' ((RowZ.below hc hW nL).mono hW.size) ((RowZ.below hd hW nL).mono hW.size) (by omega) (by omega))
 have HG:Hid (∀W,Below w.heap.size w W->Calls Tryz.prog 54 #[.slice a2 es.length k,.slice d2 es'.length k'] W fun e w'=>e=.returned (.bool (decide (es=es')))/\∃m,w'=W.drewN m):=Hd (fun W hW=> 
  Be W _ _ es es' ((RowZ.below he hW nL).mono hW.size) ((RowZ.below hf hW nL).mono hW.size) (by omega) (by omega))
 obtain⟨N,hN⟩:∃N,N=cx.length:=⟨_,rfl⟩;obtain⟨M,hM⟩:∃N,N=cx'.length:=⟨_,rfl⟩;obtain⟨N2,hN2⟩:∃N,N=es.length:=⟨_,rfl⟩;obtain⟨M2,hM2⟩:∃N,N=es'.length:=⟨_,rfl⟩;rw[<-hN,<-hM]at HE;rw[<-hN2,<-hM2]at HG;rw[<-hN,<-hM,<-hN2,<-hM2];have hbw:Below w.heap.size w ((w.alloc (.cells #[.string (bs nm),.int .i64 va,.int .i64 vb,.int .i64 vc,.slice a N c,.slice a2 N2 k] 57)).alloc (.cells #[.string (bs nm'),.int .i64 va',.int .i64 vb',.int .i64 vc',.slice d M c',.slice d2 M2 k'] 57)):=((bR _ w).alloc nL _).alloc (by simp) _;have HBW:=Hd hbw;clear hc hd he hf hN hM hN2 hM2 hbw hn hn' hm hm';unfold sv;cases h1:decide (nm=nm')
 ·rw[h1]at HR;have hq:((bs nm).toList==(bs nm').toList)=false:=by rw[aA,aA];simpa using h1
  have hq2:¬(bs nm).toList=(bs nm').toList:=by rw[aA,aA];simpa using h1
  clear h1;go_enter Tryz.func26,Tryz.ntmps26;go_wp2;go_returns;exact⟨by rw[HR.out];rfl,HBW.out⟩
 ·rw[h1]at HR;have hq:((bs nm).toList==(bs nm').toList)=true:=by rw[aA,aA];simpa using h1
  have hq2:(bs nm).toList=(bs nm').toList:=by rw[aA,aA];simpa using h1
  clear h1;cases h2:VL.V.same va vb vc va' vb' vc'
  ·rw[h2]at HR;go_enter Tryz.func26,Tryz.ntmps26;go_wp2;go_returns;exact⟨by rw[HR.out];rfl,HBW.out⟩
  ·rw[h2]at HR;cases h3:decide (cx=cx')
   ·rw[h3]at HR HE;clear h3;go_enter Tryz.func26,Tryz.ntmps26;go_wp2_with fail;refine(HE.out _ HBW.out).mono ?_;rintro e w' ⟨rfl,m,rfl⟩;go_wp2;go_returns;exact⟨by rw[HR.out];rfl,VL.below_drewN HBW.out m⟩
   ·rw[h3]at HR HE;clear h3;go_enter Tryz.func26,Tryz.ntmps26;go_wp2_with fail;refine(HE.out _ HBW.out).mono ?_;rintro e w' ⟨rfl,m,rfl⟩;go_wp2_with fail;refine(HG.out _ (VL.below_drewN HBW.out m)).mono ?_;rintro e w' ⟨rfl,m',rfl⟩;go_wp2;go_returns;exact⟨by rw[HR.out];rfl,by first | exact VL.below_drewN (VL.below_drewN HBW.out m) m' | exact VL.below_drewN HBW.out _⟩
namespace Top
def wV(x:Nd):Prop:=x.ctx.length<=1000000000/\x.edges.length<=1000000000
end Top
theorem Cm(w:World)(v1 v2:Value)(g h:List Nd)(h1:NdsAt w w.heap.size v1 g)(h2:NdsAt w w.heap.size v2 h)(hn1:g.length<=1000000000)(hn2:h.length<=1000000000)(hz1:∀x∈g,wV x)(hz2:∀x∈h,wV x):
 Calls Tryz.prog 25 #[v1,v2,.func (.func 26) #[] #[]] w fun e w'=>e=.returned (.bool (decide (g=h)))/\Below w.heap.size w w':=by
 obtain⟨a1,c1,hv1⟩:=h1.form;obtain⟨a2,c2,hv2⟩:=h2.form;by_cases hl:g.length=h.length;case neg=>
  have HF:Hid (decide (g=h)=false):=Hd (decide_eq_false fun e=>hl (by rw[e]));obtain⟨N,hN⟩:∃N,N=g.length:=⟨_,rfl⟩;obtain⟨M,hM⟩:∃N,N=h.length:=⟨_,rfl⟩;rw[<-hN]at hv1 hn1 hl;rw[<-hM]at hv2 hn2 hl;have q1:(((N:Nat):Int)==((M:Nat):Int))=false:=by rw[beq_eq_false_iff_ne];omega
  have q2:¬((N:Nat):Int)=((M:Nat):Int):=by omega
  subst hv1 hv2;clear h1 h2 hN hM hl;go_enter Tryz.func25,Tryz.ntmps25;go_wp2;go_returns;exact⟨by rw[HF.out];rfl,bR _ _⟩
 obtain⟨N,hN⟩:∃N,N=g.length:=⟨_,rfl⟩;have hM:N=h.length:=by omega
 rw[<-hN]at hv1 hn1;rw[<-hM]at hv2 hn2;have HN:=Hd hN;have HM:=Hd hM;have HA:=Hd h1;have HB:=Hd h2;have HZ1:=Hd hz1;have HZ2:=Hd hz2;subst hv1 hv2;clear h1 h2 hN hM hl hz1 hz2;have hs:((N:Int)==(N:Int))=true:=by simp
 go_enter Tryz.func25,Tryz.ntmps25;go_wp2;go_loopw [17] (fun p wr=>∃k:Nat,p=.int .i64 k/\k<=N/\(∀j,j<k->g[j]? =h[j]?)/\Below w.heap.size w wr) (fun p _=>N-(intOf p).toNat);case atStart=>exact⟨0,rfl,by omega,fun j h=>absurd h (by omega),bR _ _⟩
 case round=>
  obtain⟨k,rfl,hk,hsm,hb⟩:=hrel;have HSM:=Hd hsm;clear hsm;have hbz:=hb.size;by_cases hkN:k<N
  ·obtain⟨x,hx⟩:∃y,g[k]? =some y:=⟨_,gE (by have:=HN.out;omega)⟩;obtain⟨y,hy⟩:∃y,h[k]? =some y:=⟨_,gE (by have:=HM.out;omega)⟩;obtain⟨bk,o,cap,hve,hcap,hbk,hat⟩:=HA.out.at (by have:=HN.out;omega);rw[<-HN.out]at hve;cases hve;obtain⟨bk2,o2,cap2,hve2,hcap2,hbk2,hat2⟩:=HB.out.at (by have:=HM.out;omega);rw[<-HM.out]at hve2;cases hve2;obtain⟨xa,xc,xa2,xc2,hxp,hxe,x0,x1,x2,x3,x4,x5⟩:=hat k x hx;obtain⟨ya,yc,ya2,yc2,hyp,hye,y0,y1,y2,y3,y4,y5⟩:=hat2 k y hy;have HC:Hid (∀W,Below w.heap.size w W->Calls Tryz.prog 26 #[.agg #[sv x.name,.int .i64 x.v.a,.int .i64 x.v.b,.int .i64 x.v.c,.slice xa x.ctx.length xc,.slice xa2 x.edges.length xc2],.agg #[sv y.name,.int .i64 y.v.a,.int .i64 y.v.b,.int .i64 y.v.c,.slice ya y.ctx.length yc,.slice ya2 y.edges.length yc2]] W fun e w'=>e=.returned (.bool (decide (x=y)))/\Below W.heap.size W w'):=Hd (fun W hW=>
    yZ W x y xa ya xa2 ya2 xc yc xc2 yc2 ((RowZ.below hxp hW nL).mono hW.size) ((RowZ.below hyp hW nL).mono hW.size) ((RowZ.below hxe hW nL).mono hW.size) ((RowZ.below hye hW nL).mono hW.size)
     (HZ1.out x (mG hx)).1 (HZ2.out y (mG hy)).1 (HZ1.out x (mG hx)).2 (HZ2.out y (mG hy)).2)
   have x0:=(hb.cell (p:=⟨bk,o+k*6,none⟩) hbk).trans x0;have x1:=(hb.cell (p:=⟨bk,o+k*6+1,none⟩) hbk).trans x1;have x2:=(hb.cell (p:=⟨bk,o+k*6+2,none⟩) hbk).trans x2;have x3:=(hb.cell (p:=⟨bk,o+k*6+3,none⟩) hbk).trans x3;have x4:=(hb.cell (p:=⟨bk,o+k*6+4,none⟩) hbk).trans x4;have x5:=(hb.cell (p:=⟨bk,o+k*6+5,none⟩) hbk).trans x5;have HX:=Hd hx;have HY:=Hd hy;obtain⟨p0,hp0⟩:∃q,q=bs x.name:=⟨_,rfl⟩;obtain⟨p1,hp1⟩:∃q,q=x.v.a:=⟨_,rfl⟩;obtain⟨p2,hp2⟩:∃q,q=x.v.b:=⟨_,rfl⟩;obtain⟨p3,hp3⟩:∃q,q=x.v.c:=⟨_,rfl⟩;obtain⟨p4,hp4⟩:∃q,q=x.ctx.length:=⟨_,rfl⟩;obtain⟨p5,hp5⟩:∃q,q=x.edges.length:=⟨_,rfl⟩;obtain⟨q0,hq0⟩:∃q,q=bs y.name:=⟨_,rfl⟩;obtain⟨q1,hq1⟩:∃q,q=y.v.a:=⟨_,rfl⟩;obtain⟨q2,hq2⟩:∃q,q=y.v.b:=⟨_,rfl⟩;obtain⟨q3,hq3⟩:∃q,q=y.v.c:=⟨_,rfl⟩
   obtain⟨q4,hq4⟩:∃q,q=y.ctx.length:=⟨_,rfl⟩;obtain⟨q5,hq5⟩:∃q,q=y.edges.length:=⟨_,rfl⟩;unfold sv at x0 y0 HC;rw[<-hp0]at x0;rw[<-hp1]at x1;rw[<-hp2]at x2;rw[<-hp3]at x3;rw[<-hp4]at x4;rw[<-hp5]at x5;rw[<-hq0]at y0;rw[<-hq1]at y1;rw[<-hq2]at y2;rw[<-hq3]at y3;rw[<-hq4]at y4;rw[<-hq5]at y5;rw[<-hp0,<-hp1,<-hp2,<-hp3,<-hp4,<-hp5,<-hq0,<-hq1,<-hq2,<-hq3,<-hq4,<-hq5]at HC;have hba:=hb.alloc hbz (.cells #[.string p0,.int .i64 p1,.int .i64 p2,.int .i64 p3,.slice xa p4 xc,.slice xa2 p5 xc2] 57);have y0:=(hba.cell (p:=⟨bk2,o2+k*6,none⟩) hbk2).trans y0;have y1:=(hba.cell (p:=⟨bk2,o2+k*6+1,none⟩) hbk2).trans y1;have y2:=(hba.cell (p:=⟨bk2,o2+k*6+2,none⟩) hbk2).trans y2;have y3:=(hba.cell (p:=⟨bk2,o2+k*6+3,none⟩) hbk2).trans y3;have y4:=(hba.cell (p:=⟨bk2,o2+k*6+4,none⟩) hbk2).trans y4
   have y5:=(hba.cell (p:=⟨bk2,o2+k*6+5,none⟩) hbk2).trans y5;have hbb:=hba.alloc hba.size (.cells #[.string q0,.int .i64 q1,.int .i64 q2,.int .i64 q3,.slice ya q4 yc,.slice ya2 q5 yc2] 57);have HBB:=Hd hbb;clear hat hat2 hcap hcap2 hx hy hp0 hp1 hp2 hp3 hp4 hp5 hq0 hq1 hq2 hq3 hq4 hq5 hxp hxe hyp hye hba hbb;cases he:decide (x=y)
   ·rw[he]at HC;have HF:Hid (decide (g=h)=false):=Hd (decide_eq_false fun e=>by
     have h1:=HX.out;rw[e,HY.out]at h1;have:=Option.some.inj h1;simp[this]at he)
    clear he;go_wp2_with fail;refine(HC.out _ HBB.out).mono ?_;rintro e w' ⟨rfl,hb'⟩;go_wp2;go_returns;exact⟨by rw[HF.out];rfl,HBB.out.trans (hb'.mono HBB.out.size)⟩
   ·rw[he]at HC;have HNXT:Hid (∀j,j<k+1->g[j]? =h[j]?):=Hd (fun j hj=>by
     rcases Nat.lt_or_ge j k with h1 | h1
     ·exact HSM.out j h1
     ·have:j=k:=by omega
      subst this;rw[HX.out,HY.out,of_decide_eq_true he])
    clear he;go_wp2_with fail;refine(HC.out _ HBB.out).mono ?_;rintro e w' ⟨rfl,hb'⟩;have hbn:=HBB.out.trans (hb'.mono HBB.out.size);go_wp2;go_roundw;case rel=>exact⟨k+1,by go_num,by omega,HNXT.out,hbn⟩
    case measure=>simp[intOf];omega
  ·have HF:Hid (decide (g=h)=true):=Hd (decide_eq_true (List.ext_getElem? fun j=>by
    rcases Nat.lt_or_ge j k with h1 | h1
    ·exact HSM.out j h1
    ·rw[List.getElem?_eq_none (by have:=HN.out;omega),List.getElem?_eq_none (by have:=HM.out;omega)]))
   go_wp2;go_returns;exact⟨by rw[HF.out];rfl,hb⟩
end
section
open Top
namespace Top
theorem vK(g:List Nd):∀es:List Eg,es.foldl (cZ g) none=none
 | []=>rfl
 | e::r=>by rw[List.foldl_cons];exact vK g r
theorem rU{g:List Nd}{es:List Eg}{o:Option (List Pn)}{k:Nat}{e:Eg}(he:es[k]? =some e):(es.take (k+1)).foldl (cZ g) o=cZ g ((es.take k).foldl (cZ g) o) e:=by
 rw[List.take_add_one,he,List.foldl_append];rfl
theorem Mw{g:List Nd}{es:List Eg}{o:Option (List Pn)}{k:Nat}{e:Eg}(he:es[k]? =some e)(h:cZ g ((es.take k).foldl (cZ g) o) e=none):es.foldl (cZ g) o=none:=by
 have:es=es.take (k+1)++es.drop (k+1):=(List.take_append_drop _ _).symm;rw[this,List.foldl_append,rU he,h,vK]
theorem vL{g:List Nd}{l:List Pn}{e:Eg}{y:Nd}(hy:g[e.dst.toNat]? =some y):cZ g (some l) e=match told l e.label with
 | none=>some (l++[⟨e.label,y.v⟩])
 | some v=>if v=y.v then some l else none:=by
 unfold cZ;rw[Option.bind_some,hy,Option.bind_some];rfl
def sP(l:List Pn)(n:List UInt8):Int:=aN (fun i=>match l[i]? with | some p=>decide (p.name=n) | none=>false) l.length
theorem sO(l:List Pn)(n:List UInt8):(∃(k:Nat) (p:Pn),sP l n=(k:Int)/\l[k]? =some p/\p.name=n/\told l n=some p.v/\l.find? (fun q=>q.name==n)=some p)\/(sP l n= -1/\told l n=none/\l.find? (fun q=>q.name==n)=none):=by
 by_cases h:∃(k:Nat) (p:Pn),l[k]? =some p/\p.name=n
 ·have hmin:∃(k:Nat) (p:Pn),l[k]? =some p/\p.name=n/\∀(j:Nat) q,j<k->l[j]? =some q->q.name≠n:=by
   obtain⟨k,p,hp,hn⟩:=h;induction k using Nat.strongRecOn generalizing p with
   | _ k ih=>
    by_cases hex:∃(j:Nat) (q:Pn),j<k/\l[j]? =some q/\q.name=n
    ·obtain⟨j,q,hj,hq,hqn⟩:=hex;exact ih j hj q hq hqn
    ·exact⟨k,p,hp,hn,fun j q hj hq hqn=>hex ⟨j,q,hj,hq,hqn⟩⟩
  obtain⟨k,p,hp,hn,hno⟩:=hmin;have hk:=(gS hp).1;have hf:l.find? (fun q=>q.name==n)=some p:=by
   rw[List.find?_eq_some_iff_getElem];refine⟨by simpa using hn,k,hk,(gS hp).2,fun j hj=>?_⟩;have:=hno j _ hj (gE (by omega));simpa using this
  refine Or.inl ⟨k,p,?_,hp,hn,?_,hf⟩
  ·unfold sP;refine bH hk (by rw[hp];simpa using hn) fun j hj=>?_;rw[gE (by omega)];have:=hno j _ hj (gE (by omega));simpa using this
  ·unfold told;rw[hf];rfl
 ·have hf:l.find? (fun q=>q.name==n)=none:=by
   rw[List.find?_eq_none];intro q hq;obtain⟨k,hk,rfl⟩:=eI.1 hq;exact fun e=>h ⟨k,_,gE hk,by simpa using e⟩
  refine Or.inr ⟨?_,by unfold told;rw[hf];rfl,hf⟩;unfold sP;refine dQ fun j hj=>?_;rw[gE hj];refine decide_eq_false fun e=>h ⟨j,_,gE hj,e⟩
theorem Fu(l:List Pn):(l.map aG).flatten=l.flatMap aG:=(List.flatMap_def ..).symm
def aO(w:World)(B:Nat)(v:Value)(l:List Pn):Prop:=w.ownsRow B 101 4 v l.length (l.flatMap aG)
theorem aO.at{w:World}{B:Nat}{v:Value}{l:List Pn}(h:aO w B v l):bN w w.heap.size v l:=by
 refine RowZ.of_own (n:=l.length) (base:=B) (e:=101) ?_ (by rw[lM]) (by rw[Fu];exact h);intro y hy;obtain⟨s,_,rfl⟩:=List.mem_map.1 hy;rfl
def uI(w0:World)(r:Option (List Pn))(e:Ending)(w':World):Prop:=match r with
 | some l=>∃v,e=.returned (.tuple #[v,.bool true])/\aO w' w0.heap.size v l/\Below w0.heap.size w0 w'
 | none=>e=.returned (.tuple #[.slice none 0 0,.bool false])/\Below w0.heap.size w0 w'
end Top
theorem Dz:∀args w,(callFunc 103 args).run Tryz.prog w=.ok (.enter 103 args) w:=fun _ _=>by kernel_rfl
theorem Nh(w:World)(b:Nat)(n:List UInt8)(p:Pn)(hb:b<w.heap.size)(hc:w.cell? ⟨b,0,none⟩=some (.string (bs n))):
 Calls Tryz.prog 103 #[.agg ⟨aG p⟩,.pointer (some ⟨b,0,none⟩)] w fun e w'=>e=.returned (.bool (decide (p.name=n)))/\Below w.heap.size w w':=by
 show Calls Tryz.prog 103 #[.agg #[.string (bs p.name),.int .i64 p.v.a,.int .i64 p.v.b,.int .i64 p.v.c],.pointer (some ⟨b,0,none⟩)] w _;obtain⟨nm,⟨va,vb,vc⟩⟩:=p;dsimp only;have hbw:Below w.heap.size w (w.alloc (.cells #[.string (bs nm),.int .i64 va,.int .i64 vb,.int .i64 vc] 101)):=(bR _ w).alloc nL _;have hc:=(hbw.cell (p:=⟨b,0,none⟩) hb).trans hc;have HBW:=Hd hbw;clear hbw;by_cases h1:nm=n
 ·have HR:Hid (decide (nm=n)=true):=Hd (decide_eq_true h1);have hq:((bs nm).toList==(bs n).toList)=true:=by rw[aA,aA];simpa using h1
  have hq2:(bs nm).toList=(bs n).toList:=by rw[aA,aA];exact h1
  clear h1;go_enter Tryz.func103,Tryz.ntmps103;go_wp2;go_returns;exact⟨by rw[HR.out];rfl,HBW.out⟩
 ·have HR:Hid (decide (nm=n)=false):=Hd (decide_eq_false h1);have hq:((bs nm).toList==(bs n).toList)=false:=by rw[aA,aA];simpa using h1
  have hq2:¬(bs nm).toList=(bs n).toList:=by rw[aA,aA];exact h1
  clear h1;go_enter Tryz.func103,Tryz.ntmps103;go_wp2;go_returns;exact⟨by rw[HR.out];rfl,HBW.out⟩
theorem Hz(w:World)(v:Value)(l:List Pn)(h:bN w w.heap.size v l)(hn:l.length<=4611686018427387904)(b:Nat)(n:List UInt8)(hb:b<w.heap.size)(hc:w.cell? ⟨b,0,none⟩=some (.string (bs n))):
 Calls Tryz.prog 93 #[v,.func (.func 103) #[] #[.pointer (some ⟨b,0,none⟩)]] w fun e w'=>e=.returned (.int .i64 (sP l n))/\Below w.heap.size w w':=by
 have hcon:=mM w v (l.map aG) (fun i=>match l[i]? with | some p=>decide (p.name=n) | none=>false) 103 #[.pointer (some ⟨b,0,none⟩)] Dz h (fun x hx=>by
  obtain⟨y,_,rfl⟩:=List.mem_map.1 hx;rfl) (by rw[lM];omega) (fun i x hx W hW=>by
  rw[gM]at hx;cases hl:l[i]? with
  | none=>rw[hl]at hx;simp at hx
  | some y=>
   rw[hl]at hx;simp only[Option.map_some,iS]at hx;subst hx;exact Nh W b n y (by have:=hW.size;omega) ((hW.cell (p:=⟨b,0,none⟩) hb).trans hc))
 rw[lM]at hcon;exact hcon
theorem tY(w:World)(v:Value)(g:List Nd)(h:NdsAt w w.heap.size v g)(hn:g.length<=128)(i:Nat)(x:Nd)(hx:g[i]? =some x)(hz:wV x)(hc:(x.ctx.map (·.name)).Nodup)(hd:∀e∈x.edges,∃(j:Nat) (y:Nd),e.dst=(j:Int)/\g[j]? =some y):
 Calls Tryz.prog 53 #[.agg #[v],.int .i64 i] w fun e w'=>uI w (environment g x) e w':=by
 obtain⟨i0,hi,ha0,ha1,ha2⟩:=info_parts zH;obtain⟨bk,o,cap,hve,hcap,hbk,hat⟩:=h.at (by have:=(gS hx).1;omega);subst hve;have hiN:=(gS hx).1;obtain⟨xa,xc,xa2,xc2,hxp,hxe,x0,x1,x2,x3,x4,x5⟩:=hat i x hx;have HAT:=Hd hat;have HD:=Hd hd;have HE:=Hd hxe;have HP:=Hd hxp;have HC0:=Hd hc;obtain⟨N,hN⟩:∃N,N=g.length:=⟨_,rfl⟩;obtain⟨M,hM⟩:∃N,N=x.edges.length:=⟨_,rfl⟩;obtain⟨K,hK⟩:∃N,N=x.ctx.length:=⟨_,rfl⟩;rw[<-hN]at hn hiN hcap |-;rw[<-hM]at x5;rw[<-hK]at x4 hxp;have hM1:M<=1000000000:=by rw[hM];exact hz.2
 have hK1:K<=1000000000:=by rw[hK];exact hz.1
 have HN:=Hd hN;have HM:=Hd hM;have HK:=Hd hK;obtain⟨wb,hwb⟩:∃y,y=w.alloc (.cells #[.slice (some ⟨bk,o,none⟩) N cap] 35):=⟨_,rfl⟩;have hbb:Below w.heap.size w wb:=by rw[hwb];exact(bR _ w).alloc nL _
 have hsb:wb.heap.size=w.heap.size+1:=by rw[hwb];simp
 have hgb:∀W,Below wb.heap.size wb W->W.cell? ⟨w.heap.size,0,none⟩=some (.slice (some ⟨bk,o,none⟩) N cap):=fun W hW=>(hW.cell (p:=⟨w.heap.size,0,none⟩) (by show w.heap.size<_;omega)).trans (by rw[hwb];exact aB rfl rfl);have HGB:=Hd hgb;have HBB:=Hd hbb;have HSB:=Hd hsb;have x4:(w.alloc (.cells #[.slice (some ⟨bk,o,none⟩) N cap] 35)).cell? ⟨bk,o+i*6+4,none⟩=some (.slice xa K xc):=by rw[<-hwb];exact(hbb.cell (p:=⟨bk,o+i*6+4,none⟩) hbk).trans x4
 have HX5:=Hd x5;have HCL:=Hd (tN wb xa K xc x.ctx hK.symm ((RowZ.below hxp hbb nL).mono hbb.size) hK1);have hiz:(i:Int)<(N:Int):=by omega
 have HWB:=Hd hwb;clear h hat hd hx hM hN hK hxp hxe hc hz x0 x1 x2 x3 x5 hwb hbb hsb hgb;go_enter Tryz.func53,Tryz.ntmps53;go_wp2_with fail;rw[<-HWB.out];refine HCL.out.mono ?_;rintro e wc ⟨a6,c6,rfl,hrow6,hb6⟩;have HROW6:Hid (aO wc (w.heap.size+1) (.slice a6 K c6) x.ctx):=Hd (by
  unfold aO;rw[<-Fu,<-HK.out];exact dI hrow6 (by have:=HSB.out;omega))
 have hb7:=HBB.out.trans (hb6.mono HBB.out.size);have g1:=HGB.out _ hb6;have x5:=(hb7.cell (p:=⟨bk,o+i*6+5,none⟩) hbk).trans HX5.out;have HB6:=Hd hb6;clear x4 hrow6 hb6 hb7;go_wp2;go_loopw [25,6] (fun p q wr=>∃(t k:Nat) (l:List Pn) (ao:Option Addr) (co:Nat),p=.int .i64 t/\q=.slice ao k co/\k=l.length/\t<=M/\k<=K+t/\(x.edges.take t).foldl (cZ g) (some x.ctx)=some l/\(l.map (·.name)).Nodup/\aO wr (w.heap.size+1) (.slice ao k co) l/\Below wb.heap.size wb wr) (fun p _ _=>M-(intOf p).toNat);case atStart=>exact⟨0,K,x.ctx,a6,c6,rfl,rfl,HK.out,by omega,by omega,rfl,HC0.out,HROW6.out,HB6.out⟩
 case round=>
  clear g1 x5;obtain⟨wo,rfl⟩:∃y,y=wr:=⟨wr,rfl⟩;obtain⟨t,k,l,ao,co,rfl,rfl,hk,ht,hkt,hfo,hnd,hrow,hb⟩:=hrel;have HKL:=Hd hk;have HFO:=Hd hfo;have HND:=Hd hnd;have HROW:=Hd hrow;have hbw:=HBB.out.trans (hb.mono HBB.out.size);have HB:=Hd hb;have HBW:=Hd hbw;clear hk hfo hnd hrow;by_cases htM:t<M
  ·obtain⟨ed,hed⟩:∃y,x.edges[t]? =some y:=⟨_,gE (by have:=HM.out;omega)⟩;obtain⟨j,y,hj,hy⟩:=HD.out ed (mG hed);have hjN:j<N:=by have:=(gS hy).1;have:=HN.out;omega
   obtain⟨bk2,o2,cap2,hve2,hcap2,hbk2,hat2⟩:=HE.out.at (by have:=HM.out;omega);have hve3:(Value.slice xa2 M xc2)=.slice (some ⟨bk2,o2,none⟩) M cap2:=by rw[HM.out];exact hve2
   cases hve3;obtain⟨f0,f1⟩:=hat2 t ed hed;have f0:=(hbw.cell (p:=⟨bk2,o2+t*2,none⟩) hbk2).trans f0;have f1:=(hbw.cell (p:=⟨bk2,o2+t*2+1,none⟩) hbk2).trans f1;rw[hj]at f1;obtain⟨_,_,_,_,_,_,_,y1,y2,y3,_,_⟩:=HAT.out j y hy;obtain⟨nl,hnl⟩:∃n,n=ed.label:=⟨_,rfl⟩;obtain⟨va,hva⟩:∃n,n=y.v.a:=⟨_,rfl⟩;obtain⟨vb,hvb⟩:∃n,n=y.v.b:=⟨_,rfl⟩;obtain⟨vc,hvc⟩:∃n,n=y.v.c:=⟨_,rfl⟩;have HV:Hid (y.v=⟨va,vb,vc⟩):=Hd (by rw[hva,hvb,hvc]);unfold sv at f0;rw[<-hnl]at f0;rw[<-hva]at y1;rw[<-hvb]at y2;rw[<-hvc]at y3;have HED:=Hd hed;have HNL:=Hd hnl;have HYD:Hid (g[ed.dst.toNat]? =some y):=Hd (by rw[hj];exact hy);obtain⟨we,hwe⟩:∃y,y=wo.alloc (.cells #[.string (bs nl),.int .i64 j] 111):=⟨_,rfl⟩;have hbe:Below wo.heap.size wo we:=by rw[hwe];exact(bR _ wo).alloc nL _
   have hse:we.heap.size=wo.heap.size+1:=by rw[hwe];simp
   have hbwe:=hbw.trans (hbe.mono hbw.size);have k0:we.cell? ⟨wo.heap.size,0,none⟩=some (.string (bs nl))/\we.cell? ⟨wo.heap.size,1,none⟩=some (.int .i64 j)/\we.cell? ⟨w.heap.size,0,none⟩=some (.slice (some ⟨bk,o,none⟩) N cap)/\we.cell? ⟨bk,o+j*6+1,none⟩=some (.int .i64 va)/\we.cell? ⟨bk,o+j*6+2,none⟩=some (.int .i64 vb)/\we.cell? ⟨bk,o+j*6+3,none⟩=some (.int .i64 vc):=
    ⟨by rw[hwe];exact aB rfl rfl,by rw[hwe];exact aB rfl rfl,HGB.out _ (hb.trans (hbe.mono hb.size)),(hbwe.cell (p:=⟨bk,o+j*6+1,none⟩) hbk).trans y1,(hbwe.cell (p:=⟨bk,o+j*6+2,none⟩) hbk).trans y2,(hbwe.cell (p:=⟨bk,o+j*6+3,none⟩) hbk).trans y3⟩
   have hwz:=hbwe.size;have k1:∀ob,(we.drew.alloc ob).cell? ⟨wo.heap.size,0,none⟩=some (.string (bs nl))/\(we.drew.alloc ob).cell? ⟨wo.heap.size,1,none⟩=some (.int .i64 j)/\(we.drew.alloc ob).cell? ⟨w.heap.size,0,none⟩=some (.slice (some ⟨bk,o,none⟩) N cap)/\(we.drew.alloc ob).cell? ⟨bk,o+j*6+1,none⟩=some (.int .i64 va)/\(we.drew.alloc ob).cell? ⟨bk,o+j*6+2,none⟩=some (.int .i64 vb)/\(we.drew.alloc ob).cell? ⟨bk,o+j*6+3,none⟩=some (.int .i64 vc):=fun ob=>by
    have hz0:we.drew.heap.size=wo.heap.size+1:=hse;have hz1:w.heap.size<=wo.heap.size:=hbw.size;exact⟨(aD (by show wo.heap.size<_;omega)).trans k0.1,(aD (by show wo.heap.size<_;omega)).trans k0.2.1,(aD (by show w.heap.size<_;omega)).trans k0.2.2.1,(aD (by show bk<_;omega)).trans k0.2.2.2.1,(aD (by show bk<_;omega)).trans k0.2.2.2.2.1,(aD (by show bk<_;omega)).trans k0.2.2.2.2.2⟩
   have HWE:=Hd hwe;have HBE:Hid (Below wb.heap.size wb we):=Hd (hb.trans (hbe.mono hb.size));have HSE:=Hd hse;have HZO:Hid (w.heap.size+1<=wo.heap.size):=Hd (by have:=hb.size;have:=HSB.out;omega);have hjz:(j:Int)<(N:Int):=by omega
   have hj0:(0:Int)<=(j:Int):=by omega
   clear hed hj hy hat2 hve2 hcap2 hnl hva hvb hvc y1 y2 y3 hwe hbe hse hbwe hwz hb hbw;go_wp2_with fail;rw[<-HWE.out];go_region_held3 (fun w'=>w'.cell? ⟨wo.heap.size,0,none⟩=some (.string (bs nl))/\w'.cell? ⟨wo.heap.size,1,none⟩=some (.int .i64 j)/\w'.cell? ⟨w.heap.size,0,none⟩=some (.slice (some ⟨bk,o,none⟩) N cap)/\w'.cell? ⟨bk,o+j*6+1,none⟩=some (.int .i64 va)/\w'.cell? ⟨bk,o+j*6+2,none⟩=some (.int .i64 vb)/\w'.cell? ⟨bk,o+j*6+3,none⟩=some (.int .i64 vc)) (first | exact k0 | exact k1 _) (fail);obtain⟨wp,hwp⟩:∃y,y=(we.alloc (.cells #[.string (bs nl),.int .i64 va,.int .i64 vb,.int .i64 vc] 101)).drew:=⟨_,rfl⟩;have hbp:Below we.heap.size we wp:=by rw[hwp];exact((bR _ we).alloc nL _).drew
   have hsp:wp.heap.size=we.heap.size+1:=by rw[hwp];exact sA _ _
   have hpin:∀W,Below wp.heap.size wp W->W.cell? ⟨we.heap.size,0,none⟩=some (.string (bs nl))/\W.cell? ⟨we.heap.size,1,none⟩=some (.int .i64 va)/\W.cell? ⟨we.heap.size,2,none⟩=some (.int .i64 vb)/\W.cell? ⟨we.heap.size,3,none⟩=some (.int .i64 vc):=fun W hW=>
    ⟨(hW.cell (p:=⟨we.heap.size,0,none⟩) (by show we.heap.size<_;omega)).trans (by rw[hwp];exact aB rfl rfl),(hW.cell (p:=⟨we.heap.size,1,none⟩) (by show we.heap.size<_;omega)).trans (by rw[hwp];exact aB rfl rfl),(hW.cell (p:=⟨we.heap.size,2,none⟩) (by show we.heap.size<_;omega)).trans (by rw[hwp];exact aB rfl rfl),(hW.cell (p:=⟨we.heap.size,3,none⟩) (by show we.heap.size<_;omega)).trans (by rw[hwp];exact aB rfl rfl)⟩
   have hlab:wp.cell? ⟨wo.heap.size,0,none⟩=some (.string (bs nl)):=(hbp.cell (p:=⟨wo.heap.size,0,none⟩) (by show wo.heap.size<_;have:=HSE.out;omega)).trans k0.1;have HWP:=Hd hwp;have HPIN:=Hd hpin;have HBP:Hid (Below wb.heap.size wb wp):=Hd (HBE.out.trans (hbp.mono HBE.out.size));have HZP:Hid (wp.heap.size=wo.heap.size+2):=Hd (by have:=HSE.out;omega);have HRP:Hid (aO wp (w.heap.size+1) (.slice ao k co) l):=Hd (by
    have h1:Below wo.heap.size wo wp:=by
     have h2:Below wo.heap.size wo we:=by rw[HWE.out];exact(bR _ wo).alloc nL _
     exact h2.trans (hbp.mono h2.size)
    refine World.ownsRow.kept (row:=none) HROW.out ⟨h1.os,h1.tape,h1.output,h1.size,fun q hq _=>h1.block q hq⟩ ?_;cases (Value.slice ao k co).ownBlock<;>simp)
   have hcon:=Hz wp (.slice ao k co) l (by have:=HRP.out.at;exact this) (by have:=HKL.out;omega) wo.heap.size nl (by have:=HZP.out;omega) hlab;have HCON:=Hd hcon;obtain⟨pa,hpa⟩:∃z,z=sP l nl:=⟨_,rfl⟩;rw[<-hpa]at HCON;have hcs:=sO l nl;rw[<-hpa]at hcs;have HCS:=Hd hcs;clear hwp hbp hsp hpin hlab hcon hpa hcs k0 k1 f0 f1;go_wp2_with fail;rw[<-HWP.out];refine HCON.out.mono ?_;rintro e w3 ⟨rfl,hb3⟩;have HZ3:Hid (wo.heap.size+2<=w3.heap.size):=Hd (by have:=hb3.size;have:=HZP.out;omega);have HB3:Hid (Below wb.heap.size wb w3):=Hd (HBP.out.trans (hb3.mono HBP.out.size));have HR3:Hid (aO w3 (w.heap.size+1) (.slice ao k co) l):=Hd (by
    refine World.ownsRow.kept (row:=none) HRP.out ⟨hb3.os,hb3.tape,hb3.output,hb3.size,fun q hq _=>hb3.block q hq⟩ ?_;cases (Value.slice ao k co).ownBlock<;>simp)
   obtain⟨p0,p1,p2,p3⟩:=HPIN.out w3 hb3;clear hb3;rcases HCS.out with⟨kq,q,hpq,hlq,hqn,htold,_⟩ | ⟨hpq,htold,_⟩
   ·have hkq:kq<k:=by have:=(gS hlq).1;have:=HKL.out;omega
    have hr3:w3.ownsRow (w.heap.size+1) 101 4 (.slice ao k co) k (l.flatMap aG):=by have:=HR3.out;unfold aO at this;rwa[<-HKL.out]at this
    obtain⟨ga,ca,hga,hga1,hga2⟩:=eU hr3 (by omega);cases hga;have hcell:∀u,u<4->w3.cell? ⟨ga,kq*4+u,none⟩=(aG q)[u]?:=fun u hu=>by
     have hall:=World.ownsRow.cellAt hr3 (kq*4+u) (by omega);rw[hall,eG kQ (by decide) l _ (by have:=HKL.out;omega)];rw[show(kq*4+u)/4=kq by omega,show(kq*4+u)%4=u by omega];have:l[kq]! =q:=by
      obtain⟨h1,h2⟩:=gS hlq;rw[getElem!_pos l kq h1,h2]
     rw[this]
    have q0:=hcell 0 (by decide);have q1:=hcell 1 (by decide);have q2:=hcell 2 (by decide);have q3:=hcell 3 (by decide);obtain⟨qn,⟨qa,qb,qc⟩⟩:=q;dsimp only at hqn htold;simp only[aG,sv,gZ,List.getElem?_cons_succ,Nat.add_zero]at q0 q1 q2 q3;subst hqn;have HTOLD:=Hd htold;have hz1:¬pa<0:=by omega
    have hz2:decide (pa<0)=false:=decide_eq_false hz1;have hz3:(0:Int)<=pa:=by omega
    have hz4:pa<(k:Int):=by omega
    have hz5:pa.toNat=kq:=by omega
    clear hpq hlq hcell htold hga1 hga2 hkq hr3;by_cases hve:(⟨qa,qb,qc⟩:Ve)=⟨va,vb,vc⟩
    ·have HNX:Hid ((x.edges.take (t+1)).foldl (cZ g) (some x.ctx)=some l):=Hd (by
      rw[rU HED.out,HFO.out,vL HYD.out,<-HNL.out,HTOLD.out,HV.out];show(if(⟨qa,qb,qc⟩:Ve)=⟨va,vb,vc⟩then some l else none)=some l;rw[if_pos hve])
     have hs:dF ⟨qn,⟨qa,qb,qc⟩⟩ ⟨qn,⟨va,vb,vc⟩⟩=true:=by unfold dF;rw[hve];exact decide_eq_true rfl
     clear hve;go_wp2;go_quiet (fail);go_wp2;go_roundw;case rel=>exact⟨t+1,k,l,_,_,by go_num,rfl,HKL.out,by omega,by omega,HNX.out,HND.out,by first | exact HR3.out | exact World.ownsRow.drew HR3.out,by first | exact HB3.out.drew | exact VL.below_drewN HB3.out _⟩
     case measure=>simp[intOf];omega
    ·have HF:Hid (environment g x=none):=Hd (by
      unfold environment;rw[Mw HED.out (by
       rw[HFO.out,vL HYD.out,<-HNL.out,HTOLD.out,HV.out];show(if(⟨qa,qb,qc⟩:Ve)=⟨va,vb,vc⟩then some l else none)=none;rw[if_neg hve])]
      rfl)
     have hs:dF ⟨qn,⟨qa,qb,qc⟩⟩ ⟨qn,⟨va,vb,vc⟩⟩=false:=by
      unfold dF;exact decide_eq_false fun e=>hve (by injection e)
     clear hve;go_wp2;go_quiet (fail);go_wp2;go_returns;unfold uI;rw[HF.out];exact⟨rfl,HBB.out.trans ((by first | exact HB3.out.drew | exact VL.below_drewN HB3.out _:Below wb.heap.size wb _).mono HBB.out.size)⟩
   ·have HNX:Hid ((x.edges.take (t+1)).foldl (cZ g) (some x.ctx)=some (l++[⟨nl,⟨va,vb,vc⟩⟩])):=Hd (by
     rw[rU HED.out,HFO.out,vL HYD.out,<-HNL.out,htold,HV.out])
    have HND2:Hid (((l++[(⟨nl,⟨va,vb,vc⟩⟩:Pn)]).map (·.name)).Nodup):=Hd (by
     rw[List.map_append,List.nodup_append];refine⟨HND.out,by simp,fun a ha b hb e=>?_⟩;obtain⟨p,hp,rfl⟩:=List.mem_map.1 ha;simp only[List.map_cons,List.map_nil,mI]at hb;exact told_none htold p hp (by rw[e,hb]))
    have hz1:pa<0:=by omega
    have hz2:decide (pa<0)=true:=decide_eq_true hz1;clear hpq htold;have hz9:=HZO.out;have HR3K:Hid (w3.ownsRow (w.heap.size+1) 101 4 (.slice ao k co) k (l.flatMap aG)):=Hd (by have:=HR3.out;unfold aO at this;rwa[<-HKL.out]at this);go_wp2_with (at_builtin;refine wpList_append_own _ rfl _ _ 26 rfl (w.heap.size+1) 101 i0 (.agg #[.string ByteArray.empty,.int .i64 0,.int .i64 0,.int .i64 0]) 4 40 Tryz.underlying26 hi ha0 ha1 ha2 rfl (by decide) _ _ _ rfl (World.ownsRow.alloc HR3K.out _) ⟨w3.heap.size,0,none⟩ 1 1 [.string (bs nl),.int .i64 va,.int .i64 vb,.int .i64 vc] rfl rfl (World.news_of_block (cs:=#[.string (bs nl),.int .i64 va,.int .i64 vb,.int .i64 vc]) (heap_alloc_new _ _)) (fun x hx=>by simp at hx;rcases hx with rfl | rfl | rfl | rfl<;>rfl) (by unfold maxLen;omega) (by omega) (by simp;have:=HZ3.out;omega) ?_;intro v4 w4 hown4 hgrow4 hnil4)
    go_wp2;have hb4:Below wb.heap.size wb w4:=Below.grown (HB3.out.alloc HB3.out.size _) hgrow4 (by have:=HB3.out.size;simp;omega) (fun g hg=>by have:=(World.ownsRow.lt HR3.out g hg).1;have:=HSB.out;omega);obtain⟨g4,cap4,rfl,_,_⟩:=eU hown4 (by omega);have HR4:Hid (aO w4 (w.heap.size+1) (.slice (some ⟨g4,0,none⟩) (k+1) cap4) (l++[⟨nl,⟨va,vb,vc⟩⟩])):=Hd (by
     unfold aO;rw[lA,List.length_singleton,List.flatMap_append,<-HKL.out];exact hown4)
    go_roundw;case rel=>exact⟨t+1,k+1,l++[⟨nl,⟨va,vb,vc⟩⟩],_,_,by go_num,rfl,by have:=HKL.out;simp;omega,by omega,by omega,HNX.out,HND2.out,HR4.out,hb4⟩
    case measure=>simp[intOf];omega
  ·have HF:Hid (environment g x=some (fQ l)):=Hd (by
    unfold environment;have:=HFO.out;rw[List.take_of_length_le (by have:=HM.out;omega)]at this;rw[this];rfl)
   have hsort:=Ji (S:=fQ l) (by have:=HROW.out;unfold aO at this;rw[HKL.out]at this;exact this) (bW _ l).symm (fB _ HND.out) (by have:=HKL.out;omega);rw[<-HKL.out]at hsort;have HSO:=Hd hsort;clear hsort hb hbw;go_wp2_with fail;refine HSO.out.mono ?_;rintro e w5 ⟨rfl,hrow5,hgr5⟩;have HR5:=Hd hrow5;have HG5:=Hd hgr5;clear hrow5 hgr5;go_wp2;go_returns;unfold uI;rw[HF.out];have hl5:(fQ l).length=k:=by rw[HKL.out];exact(bW _ l).length_eq
   exact⟨_,rfl,by unfold aO;exact dI HR5.out (by omega),HBW.out.grown HG5.out HBW.out.size (fun g hg=>by have:=(World.ownsRow.lt HROW.out g hg).1;omega)⟩
end
namespace Top
structure RowO(z:Nat)(w:World)(M:Nat->Prop)(v:Value)(xs:List (List Value)):Prop where
 is:∃a cap,v=.slice a xs.length cap/\xs.length<=cap/\∀(i:Nat) (x:List Value),xs[i]? =some x->∃bk o,a=some ⟨bk,o,none⟩/\¬M bk/\bk<w.heap.size/\∀(j:Nat) (u:Value),x[j]? =some u->w.cell? ⟨bk,o+i*z+j,none⟩=some u
theorem RowO.row{z:Nat}{w:World}{M:Nat->Prop}{v:Value}{xs:List (List Value)}(h:RowO z w M v xs):RowZ z w w.heap.size v xs:=by
 obtain⟨a,cap,e,hl,hc⟩:=h.is;exact⟨a,cap,e,hl,fun i x hx=>by
  obtain⟨bk,o,h1,h2,h3,h4⟩:=hc i x hx;exact⟨bk,o,h1,h3,h4⟩⟩
theorem RowO.form{z:Nat}{w:World}{M:Nat->Prop}{v:Value}{xs:List (List Value)}(h:RowO z w M v xs):∃a cap,v=.slice a xs.length cap:=by
 obtain⟨a,cap,e,_⟩:=h.is;exact⟨a,cap,e⟩
theorem RowO.of{z:Nat}{w:World}{lo hi:Nat}{M:Nat->Prop}{v:Value}{xs:List (List Value)}(h:RowI z w lo hi v xs)(hM:∀k,M k->k<lo)(hh:hi<=w.heap.size):RowO z w M v xs:=by
 obtain⟨a,cap,e,hl,hc⟩:=h.is;refine⟨a,cap,e,hl,fun i x hx=>?_⟩;obtain⟨bk,o,h1,h2,h3,h4⟩:=hc i x hx;exact⟨bk,o,h1,fun hm=>by have:=hM bk hm;omega,by omega,h4⟩
theorem RowO.keep{z:Nat}{w w':World}{M M':Nat->Prop}{v:Value}{xs:List (List Value)}(h:RowO z w M v xs)(hs:w.heap.size<=w'.heap.size)(hk:∀k,k<w.heap.size->¬M k->w'.heap[k]? =w.heap[k]?)(hM:∀k,M' k->M k\/w.heap.size<=k):RowO z w' M' v xs:=by
 obtain⟨a,cap,e,hl,hc⟩:=h.is;refine⟨a,cap,e,hl,fun i x hx=>?_⟩;obtain⟨bk,o,h1,h2,h3,h4⟩:=hc i x hx;refine⟨bk,o,h1,fun hm=>?_,by omega,fun j u hj=>?_⟩
 ·rcases hM bk hm with h | h
  ·exact h2 h
  ·omega
 ·rw[World.cell?_of_block (w:=w) (w':=w') (a:=⟨bk,o+i*z+j,none⟩) (hk bk h3 h2)];exact h4 j u hj
theorem RowO.clip{z:Nat}{w:World}{M:Nat->Prop}{a:Option Addr}{n c:Nat}{xs:List (List Value)}(h:RowO z w M (.slice a n c) xs):RowO z w M (.slice a n n) xs:=by
 obtain⟨a',cap,e,hl,hc⟩:=h.is;cases e;exact⟨a,xs.length,rfl,nL,hc⟩
end Top
section
open Top
namespace Top
def kN(x:Sp):List Value:=[.int .i64 x.lo.rank,.int .i64 x.hi.rank]
end Top
theorem Su:(Tryz.prog.info? 190).map (fun i=>(i.zero,i.size,i.bytes))=some (some (.agg #[.int .i64 0,.int .i64 0]),2,16):=by kernel_rfl
theorem Aj(w:World)(v:Value)(l:List Sp)(h:iH w w.heap.size v l)(hn:l.length<=64):
 Calls Tryz.prog 118 #[v] w fun e w'=>∃v',e=.returned v'/\w'.ownsRow w.heap.size 190 2 v' l.length (l.flatMap kN)/\Below w.heap.size w w':=by
 obtain⟨i0,hi,ha0,ha1,ha2⟩:=info_parts Su;obtain⟨a0,c0,hv⟩:=iH.form h;obtain⟨N,hN⟩:∃N,N=l.length:=⟨_,rfl⟩;rw[<-hN]at hv hn;rw[<-hN];have HN:=Hd hN;have HR:=Hd h;subst hv;clear h hN;go_enter Tryz.func118,Tryz.ntmps118;go_wp2;go_loopw [12,3] (fun p q wr=>∃(k:Nat),p=.int .i64 k/\k<=N/\wr.ownsRow w.heap.size 190 2 q k ((l.take k).flatMap kN)/\Below w.heap.size w wr) (fun p _ _=>N-(intOf p).toNat);case atStart=>exact⟨0,rfl,by omega,World.ownsRow_nil _ _ _ _,bR _ _⟩
 case round=>
  obtain⟨k,rfl,hk,hown,hb⟩:=hrel
  rename_i q0
  obtain⟨wo,rfl⟩:∃x,x=wr:=⟨wr,rfl⟩;have HOWN:=Hd hown;have HB:=Hd hb;obtain⟨ao,co,hq⟩:=aC hown;subst hq;clear hown;by_cases hkN:k<N
  ·obtain⟨x,hx⟩:∃x,l[k]? =some x:=⟨_,gE (by have:=HN.out;omega)⟩;obtain⟨bk,o,cap,hve,hcap,hbk,hat⟩:=HR.out.at (by have:=HN.out;omega);rw[<-HN.out]at hve;cases hve;obtain⟨e0,e1,e2,e3,e4,e5⟩:=hat k x hx;rw[<-hb.cell (p:=⟨bk,o+k*6,none⟩) hbk]at e0;rw[<-hb.cell (p:=⟨bk,o+k*6+1,none⟩) hbk]at e1;rw[<-hb.cell (p:=⟨bk,o+k*6+2,none⟩) hbk]at e2;rw[<-hb.cell (p:=⟨bk,o+k*6+3,none⟩) hbk]at e3;rw[<-hb.cell (p:=⟨bk,o+k*6+4,none⟩) hbk]at e4;rw[<-hb.cell (p:=⟨bk,o+k*6+5,none⟩) hbk]at e5;have hbsz:=hb.size;have HNX:Hid ((l.take (k+1)).flatMap kN=(l.take k).flatMap kN++[.int .i64 x.lo.rank,.int .i64 x.hi.rank]):=Hd (by
    rw[List.take_add_one,hx,List.flatMap_append];rfl)
   obtain⟨⟨a,b,c⟩,⟨a',b',c'⟩⟩:=x;dsimp only at e0 e1 e2 e3 e4 e5 HNX;obtain⟨r1,hR1⟩:∃r,r=Ve.rank ⟨a,b,c⟩:=⟨_,rfl⟩;obtain⟨r2,hR2⟩:∃r,r=Ve.rank ⟨a',b',c'⟩:=⟨_,rfl⟩;obtain⟨m1,hM1⟩:∃r,r=Ve.may ⟨a,b,c⟩:=⟨_,rfl⟩;obtain⟨m2,hM2⟩:∃r,r=Ve.may ⟨a',b',c'⟩:=⟨_,rfl⟩;have HR1:Hid (∀W,Calls Tryz.prog 115 #[.agg #[.int .i64 a,.int .i64 b,.int .i64 c]] W fun e w'=>e=.returned (.tuple #[.int .i64 r1,.bool m1])/\Below W.heap.size W w'):=Hd (fun W=>by rw[hR1,hM1];exact VL.qC a b c W);have HR2:Hid (∀W,Calls Tryz.prog 115 #[.agg #[.int .i64 a',.int .i64 b',.int .i64 c']] W fun e w'=>e=.returned (.tuple #[.int .i64 r2,.bool m2])/\Below W.heap.size W w'):=Hd (fun W=>by rw[hR2,hM2];exact VL.qC a' b' c' W);rw[<-hR1,<-hR2]at HNX;clear hx hat hR1 hR2 hM1 hM2 hcap;obtain⟨wa,hwa⟩:∃y,y=wo.alloc (.cells #[.int .i64 a,.int .i64 b,.int .i64 c,.int .i64 a',.int .i64 b',.int .i64 c'] 73):=⟨_,rfl⟩
   have hba:Below wo.heap.size wo wa:=by rw[hwa];exact(bR _ _).alloc nL _
   have hza:wa.heap.size=wo.heap.size+1:=by rw[hwa];exact Array.size_push ..
   have HCA:Hid (∀W,Below wa.heap.size wa W->W.cell? ⟨wo.heap.size,3,none⟩=some (.int .i64 a')/\W.cell? ⟨wo.heap.size,4,none⟩=some (.int .i64 b')/\W.cell? ⟨wo.heap.size,5,none⟩=some (.int .i64 c')):=Hd (fun W hW=>by
    refine⟨?_,?_,?_⟩
    ·rw[hW.cell (p:=⟨wo.heap.size,3,none⟩) (by show wo.heap.size<_;omega),hwa];exact World.cell?_alloc_at _ _ _ _ rfl
    ·rw[hW.cell (p:=⟨wo.heap.size,4,none⟩) (by show wo.heap.size<_;omega),hwa];exact World.cell?_alloc_at _ _ _ _ rfl
    ·rw[hW.cell (p:=⟨wo.heap.size,5,none⟩) (by show wo.heap.size<_;omega),hwa];exact World.cell?_alloc_at _ _ _ _ rfl)
   have HWA:=Hd hwa;clear hwa;go_wp2_with fail;rw[<-HWA.out];refine(HR1.out _).mono ?_;rintro e w2 ⟨rfl,hb2⟩;obtain⟨d3,d4,d5⟩:=HCA.out w2 hb2;have hbw2:=hba.trans (hb2.mono hba.size);clear e0 e1 e2 e3 e4 e5;go_wp2_with fail;refine(HR2.out _).mono ?_;rintro e w3 ⟨rfl,hb3⟩;have hbw3:=hbw2.trans (hb3.mono hbw2.size);have HB3:=Hd hbw3;have hz3:=hbw3.size;have HR3:Hid (w3.ownsRow w.heap.size 190 2 (.slice ao k co) k ((l.take k).flatMap kN)):=Hd (bL HOWN.out (fun j _ hj=>hbw3.block j hj) nL);clear d3 d4 d5 hb2 hb3 hbw2 hbw3 hza hba;go_wp2_with (at_builtin;refine wpList_append_own _ rfl _ _ 187 rfl w.heap.size 190 i0 (.agg #[.int .i64 0,.int .i64 0]) 2 16 Tryz.underlying187 hi ha0 ha1 ha2 rfl (by decide) _ _ _ rfl (World.ownsRow.alloc HR3.out _) ⟨w3.heap.size,0,none⟩ 1 1 [.int .i64 r1,.int .i64 r2] rfl rfl (World.news_of_block (cs:=#[.int .i64 r1,.int .i64 r2]) (heap_alloc_new _ _)) (fun x hx=>by simp at hx;rcases hx with rfl | rfl<;>rfl) (by unfold maxLen;omega) (by omega) (by simp;omega) ?_;intro v4 w4 hown4 hgrow4 hnil4)
   go_wp2;have hb4:Below w.heap.size w w4:=Below.grown ((HB.out.trans (HB3.out.mono HB.out.size)).alloc (by omega) _) hgrow4 (by simp;omega) (fun g hg=>(World.ownsRow.lt HR3.out g hg).1);have HB4:=Hd hb4;have HO4:=Hd hown4;clear hb4 hown4 hgrow4 hnil4;go_roundw;case rel=>exact⟨k+1,by go_num,by omega,by rw[HNX.out];exact HO4.out,HB4.out⟩
   case measure=>simp[intOf];omega
  ·have HF:Hid (l.take k=l):=Hd (List.take_of_length_le (by have:=HN.out;omega));have HKN:Hid (k=N):=Hd (by omega);go_wp2;go_returns;exact⟨_,rfl,by have h:=HOWN.out;rw[HF.out,HKN.out]at h;rw[HKN.out];exact h,hb⟩
end
end Go.Proofs.YtcohlmdnahdnaaaGreatDoor
