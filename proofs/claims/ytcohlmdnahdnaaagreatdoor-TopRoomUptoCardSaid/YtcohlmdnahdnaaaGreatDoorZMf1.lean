/- How much a search holds, in plain words. No program stands here. -/
import Derived.Test.YtcohlmdnahdnaaaGreatDoorZCat4
import Derived.Test.YtcohlmdnahdnaaaGreatDoorZTopU
namespace Go.Proofs.YtcohlmdnahdnaaaGreatDoor
open Go.RowKit
set_option linter.unusedVariables false
set_option linter.unusedSimpArgs false
set_option maxHeartbeats 16000000
set_option maxRecDepth 100000
section
namespace Top
def Sc(p:Pk):Pn:=⟨p.name,p.v⟩
theorem Qf{C:List Pk}{q:Pn}(h:bA C q.name q.v=true):q∈C.map Sc:=by
 obtain⟨p,hp⟩:=Option.isSome_iff_exists.1 h;obtain⟨h1,h2⟩:=dH hp;unfold Pk.key at h2;simp only[Prod.mk.injEq]at h2;refine List.mem_map.2 ⟨p,h1,?_⟩;unfold Sc;rw[h2.1,h2.2]
theorem uB{C:List Pk}{l:List Pn}(hn:(l.map (·.name)).Nodup)(h:∀q∈l,bA C q.name q.v=true):l.length<=C.length:=by
 have:=gG l (C.map Sc) hn fun q hq=>Qf (h q hq);rwa[lM]at this
section
variable{C:List Pk}{m:Mf}{dev:Bool}{pins:List Pn}{most:Nat}{s:St}
theorem Inv.ctx_has(h:Inv (gY C m dev pins) (bA C) most s){j:Nat}{x:Nd}(hx:s.nodes[j]? =some x):(x.ctx.map (·.name)).Nodup/\∀q∈x.ctx,bA C q.name q.v=true:=by
 match j,hx with
 | 0,hx=>
  rw[h.n0]at hx;cases hx;exact⟨List.nodup_nil,fun q hq=>by simp[nd0]at hq⟩
 | j+1,hx=>
  obtain⟨hr,_⟩:=h.ok (j+1) x (by omega) hx;refine⟨aX _ hr,fun q hq=>?_⟩;obtain⟨i,a,es,e,h1,h2,h3,h4,h5⟩:=h.src (j+1) (by omega) (gS hx).1;have hi:=h.ah i a h1;obtain⟨env,hb⟩:=h.bnd i es _ h3 (gE (by omega));have key:∀q∈env,bA C q.name q.v=true:=fun q hq=>by
   obtain⟨t,ht,rfl⟩:=eI.1 hq;obtain⟨j',y,g1,g2,g3,g4,g5,g6,g7⟩:=hb.edge t _ (gE ht);obtain⟨_,_,g8,_⟩:=h.ok j' y g2 g4;rw[g5,g6]at g8;exact g8
  obtain⟨t,ht,rfl⟩:=eI.1 h4;have ht':t<env.length:=by rw[<-hb.len];exact ht
  obtain⟨j',y,g1,g2,g3,g4,g5,g6,g7⟩:=hb.edge t _ (gE ht');rw[gE ht]at g1;have ej:j'=j+1:=by
   have:=Option.some.inj g1;rw[this]at h5;exact Int.ofNat.inj h5
  subst ej;rw[hx]at g4;cases g4;exact key q ((iY g7).2.1 q hq)
theorem Inv.ctx_len(h:Inv (gY C m dev pins) (bA C) most s){j:Nat}{x:Nd}(hx:s.nodes[j]? =some x):x.ctx.length<=C.length:=uB (h.ctx_has hx).1 (h.ctx_has hx).2
theorem zD{k:Nat}{ctx:List Pn}{w:Wt}{y:Ch}(h:kL (gY C m dev pins) k ctx w y):y.vs.length<=C.length+1/\(told ctx y.name=none->∀v∈y.vs,bA C y.name v=true):=by
 have e1:y.vs=(aK (gY C m dev pins) k ctx w).vs:=by rw[<-h]
 have e2:y.name=w.name:=h.form.2;rw[e2,e1];unfold aK;cases ht:told ctx w.name with
 | none=>
  refine⟨?_,fun _ v hv=>(yA.1 hv).1⟩;show(bG C pins w.name w.rg).length<=_;rw[tO];have:=List.length_filter_le (gI w.rg) (aW C w.name);have:=lT C w.name;omega
 | some v=>
  refine⟨?_,fun h=>by simp at h⟩;dsimp only;split<;>simp
theorem Inv.mine_like(h:Inv (gY C m dev pins) (bA C) most s){nd:Nd}(hn:s.nodes[s.k]? =some nd){y:Ch}(hy:y∈s.mine):∃w,kL (gY C m dev pins) s.k nd.ctx w y:=by
 rw[h.mine]at hy;obtain⟨t,ht,rfl⟩:=eI.1 hy;obtain⟨nd',w,h1,h2,h3⟩:=h.gr s.k t _ (gE ht);rw[hn]at h1;cases h1;exact⟨w,h3⟩
theorem Inv.fold_has(h:Inv (gY C m dev pins) (bA C) most s){nd:Nd}(hn:s.nodes[s.k]? =some nd){l:List Ch}(hl:∀y∈l,y∈s.mine):((l.foldl bD nd.ctx).map (·.name)).Nodup/\∀q∈l.foldl bD nd.ctx,bA C q.name q.v=true:=by
 refine⟨fV l nd.ctx (h.ctx_has hn).1,fun q hq=>?_⟩;rcases eY l nd.ctx q hq with hq | ⟨x,hx,h1,h2,h3⟩
 ·exact(h.ctx_has hn).2 q hq
 ·obtain⟨w,hw⟩:=h.mine_like hn (hl x hx);have:=(zD hw).2 h3 q.v (by unfold Ch.pick at h2;exact mG h2);rwa[h1]at this
theorem Inv.fold_len(h:Inv (gY C m dev pins) (bA C) most s){nd:Nd}(hn:s.nodes[s.k]? =some nd){l:List Ch}(hl:∀y∈l,y∈s.mine):(l.foldl bD nd.ctx).length<=C.length:=uB (h.fold_has hn hl).1 (h.fold_has hn hl).2
end
end Top
end
section
open VL
namespace Top
def iF(d:Dp):Bool:=Scan.dG d.name&&(dE d.rg&&decide (d.rg≠[]))
def pE(l:List Dp)(i:Nat):Bool:=match l[i]?,l[i+1]? with
 | some x,some y=>!bytesBefore y.name x.name
 | _,_=>true
def eX(l:List Dp):Bool:=(List.range l.length).all (pE l)
def dL(l:List Dp):Bool:=decide (l.length<=16)&&(eX l&&l.all iF)
def fF(a b c:List Dp):Bool:=dL a&&(dL b&&(dL c&&decide (((a++b++c).map (·.name)).Nodup)))
def Am(m:Mf):List UInt8:=uK++aH fO m.deps++aH Oq m.dev++aH jV m.opts++aH Ew m.over
def gH(m:Mf):Bool:=fF m.deps m.dev m.opts&&(fF m.over [] []&&decide ((Am m).length<=4096))
theorem rO{l:List Dp}(h:dL l=true):LsOk l:=by
 unfold dL at h;simp only[Bool.and_eq_true,decide_eq_true_eq,List.all_eq_true]at h;refine⟨h.1,fun d hd=>?_⟩;have hi:=h.2.2 d hd;unfold iF at hi;simp only[Bool.and_eq_true]at hi;obtain⟨a,b⟩:=jH hi.1;exact⟨a,b,hi.2.1,xB hi.2.1⟩
theorem qH{a b c:List Dp}(h:fF a b c=true):LsOk a/\LsOk b/\LsOk c/\Names (a++b++c):=by
 unfold fF at h;simp only[Bool.and_eq_true,decide_eq_true_eq]at h;have ha:=rO h.1;have hb:=rO h.2.1;have hc:=rO h.2.2.1;refine⟨ha,hb,hc,h.2.2.2,fun d hd=>?_⟩;rcases List.mem_append.1 hd with hd | hd
 ·rcases List.mem_append.1 hd with hd | hd
  ·exact(ha.at_ d hd).1
  ·exact(hb.at_ d hd).1
 ·exact(hc.at_ d hd).1
theorem Fs{m:Mf}(h:gH m=true):LsOk m.deps/\LsOk m.dev/\LsOk m.opts/\LsOk m.over/\Names (m.deps++m.dev++m.opts):=by
 unfold gH at h;simp only[Bool.and_eq_true]at h;obtain⟨a,b,c,d⟩:=qH h.1;exact⟨a,b,c,(qH h.2.1).1,d⟩
theorem Fq{C:List Pk}{m:Mf}(hC:∀p∈C,bJ p=true)(hm:gH m=true):Fine C m:=⟨fun p hp=>Ht (hC p hp),(Fs hm).2.2.2.2⟩
theorem gQ{p:Pk}(h:bJ p=true):LsOk p.deps/\LsOk p.peers/\LsOk p.opts/\p.name.length<=16:=by
 unfold bJ at h;simp only[Bool.and_eq_true]at h;exact⟨eH h.2.2.1,eH h.2.2.2.1,eH h.2.2.2.2.1,(jH h.1).2⟩
theorem sK{m:Mf}(hm:LsOk m.over){d:Dp}(hd:d.rg.length<=64):(aQ m d).length<=64:=by
 unfold aQ;split
 ·rename_i o ho
  exact(hm.at_ o (List.mem_of_find?_eq_some ho)).2.2.2
 ·exact hd
theorem pJ{m:Mf}(hm:LsOk m.over){must:List (List Dp)}{may:List Dp}(h:∀l∈must,LsOk l)(h2:LsOk may)(hl:must.length<=3):(iP m must may).length<=1000/\∀y∈iP m must may,y.rg.length<=64/\y.name.length<=16:=by
 have hp:=yE m must may;have hb:∀l:List (List Dp),(∀x∈l,LsOk x)->l.flatten.length<=16*l.length:=by
  intro l;induction l with
  | nil=>intro _;simp
  | cons x r ih=>
   intro hx;have h1:=(hx x List.mem_cons_self).len;have h3:=ih fun y hy=>hx y (mC _ hy);rw[List.flatten_cons,lA,lC];omega
 have hbm:=hb must h;constructor
 ·rw[hp.length_eq];unfold gX;rw[lA,lM,lM];have:=h2.len;omega
 ·intro y hy;have hy':=hp.mem_iff.1 hy;unfold gX at hy';rcases List.mem_append.1 hy' with hy' | hy'
  ·obtain⟨d,hd,rfl⟩:=List.mem_map.1 hy';obtain⟨l,hl1,hl2⟩:=List.mem_flatten.1 hd;have:=(h l hl1).at_ d hl2;exact⟨sK hm this.2.2.2,this.2.1⟩
  ·obtain⟨d,hd,rfl⟩:=List.mem_map.1 hy';have:=h2.at_ d hd;exact⟨sK hm this.2.2.2,this.2.1⟩
theorem LsOk.nil:LsOk []:=⟨by simp,fun d h=>by simp at h⟩
theorem nP{C:List Pk}{m:Mf}(hC:∀p∈C,bJ p=true)(hm:gH m=true)(dev:Bool)(pins:List Pn)(k:Nat)(nd:Nd):((gY C m dev pins).own k nd).length<=1000/\∀y∈(gY C m dev pins).own k nd,y.rg.length<=64/\y.name.length<=16:=by
 obtain⟨h1,h2,h3,h4,_⟩:=Fs hm;show List.length (if k=0 then _ else _)<=_/\∀y∈(if k=0 then _ else _),_;by_cases hk:k=0
 ·rw[if_pos hk];refine pJ h4 (fun l hl=>?_) h3 ?_
  ·cases dev
   ·rw[if_neg (by simp)]at hl;simp only[mI]at hl;subst hl;exact h1
   ·rw[if_pos rfl]at hl;simp only[List.mem_cons,List.not_mem_nil,or_false]at hl;rcases hl with rfl | rfl
    ·exact h1
    ·exact h2
  ·cases dev<;>simp
 ·rw[if_neg hk];cases hg:bY C (nd.name,nd.v)with
  | none=>exact pJ h4 (fun l hl=>by simp only[mI]at hl;subst hl;exact LsOk.nil) LsOk.nil (by simp)
  | some p=>
   obtain⟨a,_,c,_⟩:=gQ (hC p (dH hg).1);exact pJ h4 (fun l hl=>by simp only[mI]at hl;subst hl;exact a) c (by simp)
def dX(C:List Pk)(p:Pk):Nat:=if bJ p=false then 24 else if bA C p.name p.v=true then 11 else if 128<=C.length then 26 else 0
def eQ(C:List Pk)(p:Pk):List Pk:=if dX C p=0 then p::C else C
theorem mO{C:List Pk}{n:List UInt8}{v:Ve}:bA C n v=true↔∃p∈C,p.key=(n,v):=by
 unfold bA;constructor
 ·intro h;obtain⟨p,hp⟩:=Option.isSome_iff_exists.1 h;exact⟨p,dH hp⟩
 ·rintro⟨p,hp,e⟩;cases hg:bY C (n,v)with
  | some q=>rfl
  | none=>exact absurd e (xS hg p hp)
theorem Iy{C D:List Pk}(h:C.Perm D)(n:List UInt8)(v:Ve):bA C n v=bA D n v:=by
 refine Bool.eq_iff_iff.2 ?_;rw[mO,mO];exact⟨fun⟨p,a,b⟩=>⟨p,h.mem_iff.1 a,b⟩,fun⟨p,a,b⟩=>⟨p,h.mem_iff.2 a,b⟩⟩
theorem xH{C D:List Pk}(h:C.Perm D)(p:Pk):dX C p=dX D p:=by
 unfold dX;rw[Iy h,h.length_eq]
theorem Ho{C:List Pk}{p:Pk}(h:dX C p=0):bJ p=true/\bA C p.name p.v=false/\C.length<128:=by
 unfold dX at h;by_cases h1:bJ p=false
 ·rw[if_pos h1]at h;omega
 rw[if_neg h1]at h;by_cases h2:bA C p.name p.v=true
 ·rw[if_pos h2]at h;omega
 rw[if_neg h2]at h;by_cases h3:128<=C.length
 ·rw[if_pos h3]at h;omega
 exact⟨by simpa using h1,by simpa using h2,by omega⟩
def aY(l:List Pk):List Pk:=l.foldl eQ []
theorem En(l:List Pk){k:Nat}{p:Pk}(h:l[k]? =some p):aY (l.take (k+1))=eQ (aY (l.take k)) p:=by
 unfold aY;rw[List.take_add_one,h,List.foldl_append];rfl
theorem Oz{C:List Pk}{p:Pk}(h:∀q∈C,bJ q=true):∀q∈eQ C p,bJ q=true:=by
 unfold eQ;by_cases h0:dX C p=0
 ·rw[if_pos h0];intro q hq;rcases List.mem_cons.1 hq with rfl | hq
  ·exact(Ho h0).1
  ·exact h q hq
 ·rw[if_neg h0];exact h
theorem Mv(l:List Pk):∀C:List Pk,(∀q∈C,bJ q=true)->∀q∈l.foldl eQ C,bJ q=true:=by
 induction l with
 | nil=>exact fun C h=>h
 | cons p r ih=>exact fun C h=>ih _ (Oz h)
theorem gF(l:List Pk):∀q∈aY l,bJ q=true:=Mv l [] fun q h=>by simp at h
end Top
end
section
open Go.RowKit Go.Sort
open Top
namespace Top
def Tu{α:Type}(f:α->List UInt8)(l:List α):Prop:=∀(i:Nat) (x y:α),l[i]? =some x->l[i+1]? =some y->bytesBefore (f y) (f x)=false
theorem zU{α:Type}{f:α->List UInt8}{l:List α}(h:Tu f l):(l.map f).Nodup↔∀(i:Nat) (x y:α),l[i]? =some x->l[i+1]? =some y->f y≠f x:=by
 constructor
 ·intro hn i x y hx hy e;have h1:(l.map f)[i]? =some (f x):=by rw[gM,hx];rfl
  have h2:(l.map f)[i+1]? =some (f y):=by rw[gM,hy];rfl
  rw[e,<-h1]at h2;have hi:=(gS h1).1;have:=(List.getElem?_inj hi hn).1 h2.symm;omega
 ·intro hne;have hr:bM f l:=mD fun j x y hx hy=>Oc (fun e=>hne j x y hx hy e) (h j x y hx hy);exact aX f hr
theorem Cj{α:Type}[Inhabited α](f:α->List UInt8){ds:List α}{d':Array α}(hp:PermIn 0 ds.length ds.toArray d')(hs:SortedIn (fun x y=>bytesBefore (f x) (f y)) 0 ds.length d'):d'.toList.Perm ds/\Tu f d'.toList:=by
 obtain⟨h1,_,h3⟩:=hp;have hsz:d'.size=ds.length:=by rw[h1];simp
 have hperm:d'.toList.Perm ds:=by
  have:(d'.extract 0 ds.length).toList=d'.toList:=by rw[<-hsz];simp
  rw[this]at h3;have h4:(ds.toArray.extract 0 ds.length).toList=ds:=by simp
  rw[h4]at h3;exact h3
 refine⟨hperm,fun i x y hx hy=>?_⟩;obtain⟨hi,rfl⟩:=gS hx;obtain⟨hj,rfl⟩:=gS hy;have hi':i<d'.size:=by simpa using hi
 have hj':i+1<d'.size:=by simpa using hj
 have:=hs i (i+1) (Nat.zero_le _) (Nat.lt_succ_self i) (by omega);rw[getElem!_pos d' (i+1) hj',getElem!_pos d' i hi']at this;simpa using this
theorem Dt{w:World}(os:Array Obj):Below w.heap.size w (Go.Sort.grow w os):=by
 refine⟨rfl,rfl,rfl,by simp[Go.Sort.grow],fun i hi=>?_⟩;show(w.heap++os)[i]? =w.heap[i]?;exact Array.getElem?_append_left hi
theorem Ao{l:List Dp}{i:Nat}{x y:Dp}(hx:l[i]? =some x)(hy:l[i+1]? =some y)(h:bytesBefore y.name x.name=true):eX l=false:=by
 unfold eX;refine List.all_eq_false.2 ⟨i,List.mem_range.2 (gS hx).1,?_⟩;unfold pE;rw[hx,hy];dsimp only;rw[h];decide
theorem zB{l:List Dp}(h:∀i,i+1<l.length->pE l i=true):eX l=true:=by
 unfold eX;refine List.all_eq_true.2 fun i hi=>?_;have hi':=List.mem_range.1 hi;by_cases h1:i+1<l.length
 ·exact h i h1
 ·unfold pE;rw[List.getElem?_eq_none (by omega:l.length<=i+1)];cases l[i]?<;>rfl
end Top
theorem Il{w:World}{base:Nat}{v:Value}{ds:List Dv}(h:w.ownsRow base 75 2 v ds.length (ds.flatMap bF))(hn:ds.length<4611686018427387904):
 Calls Tryz.prog 71 #[v,.func (.func 68) #[] #[]] w fun e w'=>e=.returned (.tuple #[])/\∃S:List Dv,S.Perm ds/\Tu (·.name) S/\w'.ownsRow base 75 2 v S.length (S.flatMap bF)/\w.grownBy w' v.ownBlock:=by
 rcases Nat.eq_zero_or_pos ds.length with h0 | h0
 ·have e1:ds=[]:=List.length_eq_zero_iff.1 h0;subst e1;obtain⟨a,c,rfl⟩:=aC h;have hcon:=AnyF.slices_SortFunc_none (P:=Tryz.prog) {Tryz.sortDep with} a c (.func (.func 68) #[] #[]) w;change Calls Tryz.prog 71 _ _ _ at hcon;refine hcon.mono ?_;rintro e w1 ⟨rfl,rfl⟩;exact⟨rfl,[],List.Perm.refl _,fun i x y hx=>by simp at hx,h,⟨rfl,rfl,rfl,nL,fun _ _ _=>rfl⟩⟩
 ·obtain⟨g,cap,rfl,hg,hbg,hH,hall⟩:=iV Ed h h0
  have hcon:=AnyQ.slices_SortFunc (P:=Tryz.prog) Tryz.sortDep 2 Tryz.isAgg75 Tryz.sizeOf75 bF Ed Ni (wL (·.name)) (by rw[Rb];exact kM _) 68 #[] g 0 cap ds.toArray w zC
   (fun m os dk hs x y=>Au x y _) hH hg (by simpa using hn)
  rw[List.size_toArray,Rb]at hcon;change Calls Tryz.prog 71 _ _ _ at hcon;refine hcon.mono ?_;rintro e w1 ⟨rfl,d',n,os,hp1,hs1,rfl⟩;obtain⟨h2,h3⟩:=Cj (fun d:Dv=>d.name) hp1 hs1;have hr:=hall d'.toList h2.length_eq n os;exact⟨rfl,d'.toList,h2,h3,hr.1,hr.2⟩
theorem zF(w:World)(v:Value)(l:List Dp)(h:DpsAt w w.heap.size v l)(hn:l.length<=1000000000):
 Calls Tryz.prog 69 #[v,.func (.func 68) #[] #[]] w fun e w'=>e=.returned (.bool (eX l))/\Below w.heap.size w w':=by
 have hen:=zC;obtain⟨a0,c0,hv⟩:=h.form;obtain⟨N,hN⟩:=ex (l.length);rw[<-hN]at hv hn;have HN:=Hd hN;have HR:=Hd h;subst hv;clear h hN;have hw0:IntKind.i64.wrap ((N:Int)-1)=(N:Int)-1:=IntWalk.i64_in _ (by omega);go_enter Tryz.func69,Tryz.ntmps69;go_wp2;go_loopw [5] (fun p wr=>∃(k:Nat),p=.int .i64 ((k:Int)-1)/\k<=N/\(∀i,k<=i+1->i+1<N->pE l i=true)/\Below w.heap.size w wr) (fun p _=>(intOf p+1).toNat);case atStart=>exact⟨N,by go_num,by omega,fun i h1 h2=>absurd h1 (by omega),bR _ _⟩
 case round=>
  obtain⟨wo,rfl⟩:∃x,x=wr:=⟨wr,rfl⟩;obtain⟨k,rfl,hk,hall,hb⟩:=hrel;have HB:=Hd hb;have HALL:=Hd hall;clear hall;by_cases hk2:2<=k
  ·obtain⟨i,rfl⟩:∃i,k=i+2:=⟨k-2,by omega⟩;obtain⟨x,hx⟩:∃x,l[i]? =some x:=⟨_,gE (by have:=HN.out;omega)⟩;obtain⟨y,hy⟩:∃y,l[i+1]? =some y:=⟨_,gE (by have:=HN.out;omega)⟩;obtain⟨bk,o,cap,hve,hcap,hbk,hat⟩:=HR.out.at (by have:=HN.out;omega);rw[<-HN.out]at hve;cases hve;obtain⟨xa,xc,_,e0,e1⟩:=hat i x hx;obtain⟨ya,yc,_,e2,e3⟩:=hat (i+1) y hy;obtain⟨xn,hxn⟩:=ex (x.rg.length);obtain⟨yn,hyn⟩:=ex (y.rg.length);rw[<-hxn]at e1;rw[<-hyn]at e3;unfold sv at e0 e2;have HCELL:Hid (∀W,Below w.heap.size w W->W.cell? ⟨bk,o+i*2,none⟩=some (.string (bs x.name))/\W.cell? ⟨bk,o+i*2+1,none⟩=some (.slice xa xn xc)/\W.cell? ⟨bk,o+(i+1)*2,none⟩=some (.string (bs y.name))/\W.cell? ⟨bk,o+(i+1)*2+1,none⟩=some (.slice ya yn yc)):=Hd (fun W hW=>⟨(hW.cell (p:=⟨bk,o+i*2,none⟩) hbk).trans e0,(hW.cell (p:=⟨bk,o+i*2+1,none⟩) hbk).trans e1,(hW.cell (p:=⟨bk,o+(i+1)*2,none⟩) hbk).trans e2,(hW.cell (p:=⟨bk,o+(i+1)*2+1,none⟩) hbk).trans e3⟩)
   obtain⟨r,hr⟩:=ex (Go.Lib.compareBytes y.name x.name);have hrb:decide (r<0)=bytesBefore y.name x.name:=by rw[hr];exact gB _ _
   have HCLO:Hid (∀W,Calls Tryz.prog 68 #[.agg #[.string (bs y.name),.slice ya yn yc],.agg #[.string (bs x.name),.slice xa xn xc]] W fun e w'=>e=.returned (.int .i64 r)/\Below W.heap.size W w'):=Hd (fun W=>by
    rw[hr];refine(Au (⟨y.name,ya,yn,yc⟩:Dv) (⟨x.name,xa,xn,xc⟩:Dv) W).mono ?_;rintro e w' ⟨h1,q,os',rfl⟩;exact⟨h1,(VL.below_drewN (bR _ _) q).trans (show Below W.heap.size (W.drewN q) (Go.Sort.grow (W.drewN q) os')from Dt (w:=W.drewN q) os')⟩)
   have hw1:IntKind.i64.wrap ((((i+2:Nat):Int)-1)-1)=(i:Int):=by rw[IntWalk.i64_in _ (by omega)];omega
   have hq1:(((i+2:Nat):Int)-1)=(i:Int)+1:=by omega
   have hlt1:(i:Int)+1<(N:Int):=by omega
   have hge1:(0:Int)<=(i:Int)+1:=by omega
   have hw1b:IntKind.i64.wrap (i:Int)=(i:Int):=IntWalk.i64_in _ (by omega);have hlt0:(i:Int)<(N:Int):=by omega
   rw[hq1]at hw1 |-;have HX:=Hd hx;have HY:=Hd hy;have HNX:Hid (bytesBefore y.name x.name=false->∀j,i+1<=j+1->j+1<N->pE l j=true):=Hd (fun h j h1 h2=>by
    rcases Nat.lt_or_ge i j with h3 | h3
    ·exact HALL.out j (by omega) h2
    ·have:j=i:=by omega
     subst this;unfold pE;rw[hx,hy];dsimp only;rw[h];decide)
   clear hx hy hat hcap e0 e1 e2 e3 hxn hyn hr;go_upto_region 4 with fail;refine rG (fun w'=>w'.cell? ⟨bk,o+i*2,none⟩=some (.string (bs x.name))/\w'.cell? ⟨bk,o+i*2+1,none⟩=some (.slice xa xn xc)/\w'.cell? ⟨bk,o+(i+1)*2,none⟩=some (.string (bs y.name))/\w'.cell? ⟨bk,o+(i+1)*2+1,none⟩=some (.slice ya yn yc)) (HCELL.out wo HB.out) fun hU=>?_;refine aM [0,1,2,3,4,5,6,7,8,9] ?_;refine rd 10 fun K hK=>?_;go_simp;go_at_call 68;refine(HCLO.out _).mono ?_;rintro e w5 ⟨rfl,hb5⟩;have HB5:Hid (Below w.heap.size w w5):=Hd (HB.out.drew.trans (hb5.mono HB.out.drew.size));clear hb5;refine hK.out _ _ (HCELL.out w5 HB5.out) fun hU=>?_;clear hK K;refine aM [11] ?_;refine dN ?_;cases hbf:bytesBefore y.name x.name
   ·rw[hbf]at hrb;have hr0:¬r<0:=by simpa using hrb
    have HNX2:=Hd (HNX.out hbf);clear hbf hrb;go_wp2;go_roundw;case rel=>exact⟨i+1,by go_num,by omega,HNX2.out,HB5.out⟩
    case measure=>simp[intOf];omega
   ·rw[hbf]at hrb;have hr0:r<0:=by simpa using hrb
    have HF:=Hd (Ao HX.out HY.out hbf);clear hbf hrb;go_wp2;go_returns;exact⟨by rw[HF.out];rfl,HB5.out⟩
  ·have HF:Hid (eX l=true):=Hd (zB fun i hi=>HALL.out i (by omega) (by have:=HN.out;omega));have hk1:¬(0:Int)<(k:Int)-1:=by omega
   go_wp2;go_returns;exact⟨by rw[HF.out];rfl,hb⟩
end
section
open Go.RowKit Go.Maps Go.WideMaps
namespace Top
def aL(p:Pk)(d:Value×(Value×Value)):List Value:=[sv p.name,.int .i64 p.v.a,.int .i64 p.v.b,.int .i64 p.v.c,d.1,d.2.1,d.2.2]
def kK(n:Nat)(l:List Dp):Prop:=3*l.length<=n/\∀d∈l,d.name.length<=n/\3*d.rg.length<=n
def qZ(n:Nat)(p:Pk):Prop:=p.name.length<=n/\kK n p.deps/\kK n p.peers/\kK n p.opts
def zP(n:Nat)(m:Mf):Prop:=kK n m.deps/\kK n m.dev/\kK n m.opts/\kK n m.over
theorem kK.mono{n m:Nat}{l:List Dp}(h:kK n l)(hm:n<=m):kK m l:=⟨Nat.le_trans h.1 hm,fun d hd=>⟨Nat.le_trans (h.2 d hd).1 hm,Nat.le_trans (h.2 d hd).2 hm⟩⟩
theorem qZ.mono{n m:Nat}{p:Pk}(h:qZ n p)(hm:n<=m):qZ m p:=⟨Nat.le_trans h.1 hm,h.2.1.mono hm,h.2.2.1.mono hm,h.2.2.2.mono hm⟩
theorem zP.mono{n m:Nat}{x:Mf}(h:zP n x)(hm:n<=m):zP m x:=⟨h.1.mono hm,h.2.1.mono hm,h.2.2.1.mono hm,h.2.2.2.mono hm⟩
structure PksAt(w:World)(B:Nat)(v:Value)(l:List Pk):Prop where
 is:∃ds:List (Value×(Value×Value)),ds.length=l.length/\RowZ 7 w B v (List.zipWith aL l ds)/\∀(i:Nat) (p:Pk) (d:Value×(Value×Value)),l[i]? =some p->ds[i]? =some d->PkAt w B p d.1 d.2.1 d.2.2
def Tz(d:Value×(Value×Value)):Prop:=∃(a1:Option Addr) (n1 c1:Nat) (a2:Option Addr) (n2 c2:Nat) (a3:Option Addr) (n3 c3:Nat),d=(.slice a1 n1 c1,(.slice a2 n2 c2,.slice a3 n3 c3))
structure RfRow(w:World)(B:Nat)(v:Value)(l:List Pk):Prop where
 is:∃ds:List (Value×(Value×Value)),ds.length=l.length/\RowZ 7 w B v (List.zipWith aL l ds)/\∀d∈ds,Tz d
theorem PksAt.below{w w':World}{n B:Nat}{v:Value}{l:List Pk}(h:PksAt w B v l)(hb:Below n w w')(hB:B<=n):PksAt w' B v l:=by
 obtain⟨ds,h1,h2,h3⟩:=h.is;exact⟨ds,h1,h2.below hb hB,fun i p d hp hd=>(h3 i p d hp hd).below hb hB⟩
theorem PksAt.mono{w:World}{B B':Nat}{v:Value}{l:List Pk}(h:PksAt w B v l)(hB:B<=B'):PksAt w B' v l:=by
 obtain⟨ds,h1,h2,h3⟩:=h.is;exact⟨ds,h1,h2.mono hB,fun i p d hp hd=>(h3 i p d hp hd).mono hB⟩
theorem PksAt.rf{w:World}{B:Nat}{v:Value}{l:List Pk}(h:PksAt w B v l):RfRow w B v l:=by
 obtain⟨ds,h1,h2,h3⟩:=h.is;refine⟨ds,h1,h2,fun d hd=>?_⟩;obtain⟨i,hi,rfl⟩:=eI.1 hd;have hp:=h3 i _ _ (gE (by omega:i<l.length)) (gE hi);obtain⟨a1,c1,e1⟩:=hp.deps.form;obtain⟨a2,c2,e2⟩:=hp.peers.form;obtain⟨a3,c3,e3⟩:=hp.opts.form;exact⟨a1,_,c1,a2,_,c2,a3,_,c3,Prod.ext e1 (Prod.ext e2 e3)⟩
theorem RfRow.below{w w':World}{n B:Nat}{v:Value}{l:List Pk}(h:RfRow w B v l)(hb:Below n w w')(hB:B<=n):RfRow w' B v l:=by
 obtain⟨ds,h1,h2,h3⟩:=h.is;exact⟨ds,h1,h2.below hb hB,h3⟩
theorem RfRow.mono{w:World}{B B':Nat}{v:Value}{l:List Pk}(h:RfRow w B v l)(hB:B<=B'):RfRow w B' v l:=by
 obtain⟨ds,h1,h2,h3⟩:=h.is;exact⟨ds,h1,h2.mono hB,h3⟩
theorem RfRow.nil(w:World)(B:Nat):RfRow w B (.slice none 0 0) []:=⟨[],rfl,RowZ.nil _ _ _,fun d hd=>by simp at hd⟩
theorem RfRow.form{w:World}{B:Nat}{v:Value}{l:List Pk}(h:RfRow w B v l):∃a cap,v=.slice a l.length cap:=by
 obtain⟨ds,h1,h2,_⟩:=h.is;obtain⟨a,cap,e⟩:=h2.form;refine⟨a,cap,?_⟩;rw[e,List.length_zipWith,h1,Nat.min_self]
theorem PksAt.form{w:World}{B:Nat}{v:Value}{l:List Pk}(h:PksAt w B v l):∃a cap,v=.slice a l.length cap:=h.rf.form
theorem PksAt.at{w:World}{B:Nat}{v:Value}{l:List Pk}(h:PksAt w B v l)(hn:0<l.length):∃bk o cap,v=.slice (some ⟨bk,o,none⟩) l.length cap/\bk<B/\∀(i:Nat) (p:Pk),l[i]? =some p->∃d1 d2 d3,PkAt w B p d1 d2 d3/\
 ∀(j:Nat) (u:Value),(aL p (d1,(d2,d3)))[j]? =some u->w.cell? ⟨bk,o+i*7+j,none⟩=some u:=by
 obtain⟨ds,h1,h2,h3⟩:=h.is;have hl:(List.zipWith aL l ds).length=l.length:=by rw[List.length_zipWith,h1,Nat.min_self]
 obtain⟨bk,o,cap,e,hc,hB,hu⟩:=h2.some (by omega);rw[hl]at e hc;refine⟨bk,o,cap,e,hB,fun i p hp=>?_⟩;have hi:=(gS hp).1;have hds:ds[i]? =some (ds[i]'(by omega)):=gE (by omega);have hz:(List.zipWith aL l ds)[i]? =some (aL p (ds[i]'(by omega))):=by rw[List.getElem?_zipWith,hp,hds]
 exact⟨_,_,_,h3 i p _ hp hds,fun j u hj=>hu i _ hz j u hj⟩
theorem RfRow.at{w:World}{B:Nat}{v:Value}{l:List Pk}(h:RfRow w B v l)(hn:0<l.length):∃bk o cap,v=.slice (some ⟨bk,o,none⟩) l.length cap/\l.length<=cap/\bk<B/\∀(i:Nat) (p:Pk),l[i]? =some p->∃d:Value×(Value×Value),Tz d/\
 ∀(j:Nat) (u:Value),(aL p d)[j]? =some u->w.cell? ⟨bk,o+i*7+j,none⟩=some u:=by
 obtain⟨ds,h1,h2,h3⟩:=h.is;have hl:(List.zipWith aL l ds).length=l.length:=by rw[List.length_zipWith,h1,Nat.min_self]
 obtain⟨bk,o,cap,e,hc,hB,hu⟩:=h2.some (by omega);rw[hl]at e hc;refine⟨bk,o,cap,e,hc,hB,fun i p hp=>?_⟩;have hi:=(gS hp).1;have hds:ds[i]? =some (ds[i]'(by omega)):=gE (by omega);have hz:(List.zipWith aL l ds)[i]? =some (aL p (ds[i]'(by omega))):=by rw[List.getElem?_zipWith,hp,hds]
 exact⟨_,h3 _ (mG hds),fun j u hj=>hu i _ hz j u hj⟩
theorem RowZ.off{z:Nat}{w w':World}{B b:Nat}{v:Value}{xs:List (List Value)}(h:RowZ z w B v xs)(hx:∀x∈xs,2<=x.length)(hb:∀i u,w.cell? ⟨b,i+1,none⟩≠some u)(hk:∀k,k<w.heap.size->k≠b->w'.heap[k]? =w.heap[k]?):RowZ z w' B v xs:=by
 obtain⟨a,cap,rfl,hlc,hc⟩:=h.is;refine⟨a,cap,rfl,hlc,fun i x hi=>?_⟩;obtain⟨bk,o,ha,hkB,hu⟩:=hc i x hi;refine⟨bk,o,ha,hkB,fun j u hj=>?_⟩;have h0:=hu j u hj;have h1:=hx x (mG hi);have h2:=hu 1 _ (gE (by omega));rw[<-h0];refine World.cell?_of_block (hk bk (lt_of_cell h0) fun e=>?_);subst e;exact hb _ _ h2
theorem DpsAt.off{w w':World}{B b:Nat}{v:Value}{l:List Dp}(h:DpsAt w B v l)(hb:∀i u,w.cell? ⟨b,i+1,none⟩≠some u)(hk:∀k,k<w.heap.size->k≠b->w'.heap[k]? =w.heap[k]?):DpsAt w' B v l:=by
 obtain⟨cs,h1,h2,h3⟩:=h.is;refine⟨cs,h1,RowZ.off h2 (fun x hx=>?_) hb hk,fun i x c' hx hc=>RowZ.off (h3 i x c' hx hc) (fun y hy=>?_) hb hk⟩
 ·obtain⟨i,hi,rfl⟩:=eI.1 hx;rw[List.getElem_zipWith];exact Nat.le_refl 2
 ·obtain⟨s,_,rfl⟩:=List.mem_map.1 hy;exact(by decide:2<=6)
theorem PkAt.off{w w':World}{B b:Nat}{p:Pk}{d1 d2 d3:Value}(h:PkAt w B p d1 d2 d3)(hb:∀i u,w.cell? ⟨b,i+1,none⟩≠some u)(hk:∀k,k<w.heap.size->k≠b->w'.heap[k]? =w.heap[k]?):PkAt w' B p d1 d2 d3:=⟨h.deps.off hb hk,h.peers.off hb hk,h.opts.off hb hk⟩
theorem Ents.off{w w':World}{B b:Nat}{L:List (Ky×Value)}{C:List Pk}(h:Ents w B L C)(hb:∀i u,w.cell? ⟨b,i+1,none⟩≠some u)(hk:∀k,k<w.heap.size->k≠b->w'.heap[k]? =w.heap[k]?):Ents w' B L C:=by
 induction h with
 | nil=>exact .nil
 | cons hp _ ih=>exact .cons (hp.off hb hk) ih
theorem RfRow.off{w w':World}{B b:Nat}{v:Value}{l:List Pk}(h:RfRow w B v l)(hb:∀i u,w.cell? ⟨b,i+1,none⟩≠some u)(hk:∀k,k<w.heap.size->k≠b->w'.heap[k]? =w.heap[k]?):RfRow w' B v l:=by
 obtain⟨ds,h1,h2,h3⟩:=h.is;refine⟨ds,h1,RowZ.off h2 (fun x hx=>?_) hb hk,h3⟩;obtain⟨i,hi,rfl⟩:=eI.1 hx;rw[List.getElem_zipWith];exact(by decide:2<=7)
theorem zA{w:World}{b c:Nat}{es:Array MapEntry}(h:w.heap[b]? =some (.map es c)):∀i u,w.cell? ⟨b,i+1,none⟩≠some u:=fun i u e=>by
 unfold World.cell? at e;rw[h]at e;simp at e
theorem qG{w:World}{b:Nat}{x:Value}{t:TypeId}{fr:Nat×Nat}(h:w.heap[b]? =some (.cells #[x] t fr)):∀i u,w.cell? ⟨b,i+1,none⟩≠some u:=fun i u e=>by
 rw[Go.Lib.cell_of_heap h]at e;simp at e
theorem CMap.isMap{w:World}{b n:Nat}{L:List (Ky×Value)}(h:CMap w b n L):∃es c,w.heap[b]? =some (.map es c):=by
 obtain⟨⟨D,⟨es,clock,h1,h2⟩,h3⟩,h4,h5⟩:=h;exact⟨es,clock,h1⟩
structure CatN(w:World)(B s b:Nat)(C:List Pk):Prop where
 cell:w.cell? ⟨s,0,none⟩=some (.map (some b))
 ents:∃L,CMap w b C.length L/\Ents w B L C
 sB:s<B
 bB:b<B
 size:C.length<=128
 pks:∀p∈C,Om p/\nC p.key
theorem CatN.at{w:World}{B s b:Nat}{C:List Pk}(h:CatN w B s b C):CatAt w B s b C:=by
 obtain⟨L,h1,h2⟩:=h.ents;exact⟨h.cell,⟨L,C.length,h.size,h1,h2⟩,h.sB,h.bB,h.size,h.pks⟩
theorem CatN.below{w w':World}{n B s b:Nat}{C:List Pk}(h:CatN w B s b C)(hb:Below n w w')(hB:B<=n):CatN w' B s b C:=by
 obtain⟨L,h2,h3⟩:=h.ents;have:=h.sB;have:=h.bB;exact⟨(hb.cell (p:=⟨s,0,none⟩) (by show s<n;omega)).trans h.cell,⟨L,h2.below hb (by omega),h3.under hb hB⟩,h.sB,h.bB,h.size,h.pks⟩
theorem CatN.mono{w:World}{B B' s b:Nat}{C:List Pk}(h:CatN w B s b C)(hB:B<=B'):CatN w B' s b C:=by
 obtain⟨L,h2,h3⟩:=h.ents;have:=h.sB;have:=h.bB;exact⟨h.cell,⟨L,h2,h3.mono hB⟩,by omega,by omega,h.size,h.pks⟩
theorem CatN.up{w w':World}{s b:Nat}{C:List Pk}(h:CatN w w.heap.size s b C)(hb:Below w.heap.size w w'):CatN w' w'.heap.size s b C:=(h.below hb nL).mono hb.size
theorem CatN.off{w w':World}{B s b r:Nat}{C:List Pk}(h:CatN w B s b C)(hB:B<=w.heap.size)(hr:∀i u,w.cell? ⟨r,i+1,none⟩≠some u)(hk:∀k,k<w.heap.size->k≠r->w'.heap[k]? =w.heap[k]?)(hs:s≠r)(hbr:b≠r):CatN w' B s b C:=by
 obtain⟨L,h2,h3⟩:=h.ents;have:=h.sB;have:=h.bB;refine⟨(World.cell?_of_block (a:=⟨s,0,none⟩) (hk s (by omega) hs)).trans h.cell,⟨L,h2.heap (hk b (by omega) hbr),h3.off hr hk⟩,h.sB,h.bB,h.size,h.pks⟩
structure PairAt(w:World)(B0 s b r:Nat)(C:List Pk):Prop where
 cat:CatN w w.heap.size s b C
 rf:∃v D,D.Perm C/\(D=[]->v=.slice none 0 0)/\w.heap[r]? =some (.cells #[v] 47 (0,0))/\RfRow w w.heap.size v D
 s0:B0<=s
 b0:B0<=b
 r0:B0<=r
 sr:s≠r
 br:b≠r
end Top
end
end Go.Proofs.YtcohlmdnahdnaaaGreatDoor
