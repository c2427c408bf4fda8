/- Problems and graphs that came in: what their rows hold, and their bulk. -/
import Derived.Test.YtcohlmdnahdnaaaGreatDoorRows
import Derived.DataShut
import Derived.Deep.Strs
import Derived.OpenShut
import Derived.Test.YtcohlmdnahdnaaaGreatDoorZMf1
import Derived.Test.YtcohlmdnahdnaaaGreatDoorZPk1
namespace Go.Proofs.YtcohlmdnahdnaaaGreatDoor
open Go.RowKit
set_option linter.unusedVariables false
set_option linter.unusedSimpArgs false
set_option maxHeartbeats 16000000
set_option maxRecDepth 100000
section
open Go.RowKit Go.Deep Go.ChangeShapes Go.WideShapes
namespace Opp
open Top
instance:Inhabited Eg:=⟨⟨[],0⟩⟩
instance:Inhabited Nd:=⟨nd0⟩
instance:Inhabited Pk:=⟨wP⟩
def yF(v:Ve):Prop:=(Lit.int .i64 v.a).wf=true/\(Lit.int .i64 v.b).wf=true/\(Lit.int .i64 v.c).wf=true
theorem mX{H:Type}(d:DataW H):1<=Rows.uptoBulk d:=by
 cases d with
 | lit l=>cases l<;>simp[Rows.uptoBulk]
 | _=>simp[Rows.uptoBulk]
def zO(n:Nat)(x:Nd):Prop:=x.name.length<=n/\3*x.ctx.length<=n/\3*x.edges.length<=n/\(∀p∈x.ctx,p.name.length<=n/\yF p.v)/\(∀e∈x.edges,e.label.length<=n)/\yF x.v
theorem zO.mono{n m:Nat}{x:Nd}(h:zO n x)(hm:n<=m):zO m x:=
 ⟨Nat.le_trans h.1 hm,Nat.le_trans h.2.1 hm,Nat.le_trans h.2.2.1 hm,fun p hp=>⟨Nat.le_trans (h.2.2.2.1 p hp).1 hm,(h.2.2.2.1 p hp).2⟩,fun p hp=>Nat.le_trans (h.2.2.2.2.1 p hp) hm,h.2.2.2.2.2⟩
theorem Qr{w:World}{a:Addr}{v:Value}(h:w.cell? a=some v):a.block<w.heap.size:=by
 refine Decidable.byContradiction fun hh=>?_;unfold World.cell? at h;rw[Array.getElem?_eq_none (by simpa using hh)]at h;exact absurd h (by simp)
theorem dK{bk o i:Nat}:(⟨bk,o,none⟩:Addr).add i=⟨bk,o+i,none⟩:=by
 simp only[Addr.add];split
 ·next h0=>rw[h0];rfl
 ·rfl
theorem fld{fs:Array Field}{L:List (TypeId×Nat)}(hs:fs.toList.map (fun f=>(f.type,f.offset))=L){i:Nat}{t:TypeId}{o:Nat}(hL:L[i]? =some (t,o)):∃f,fs[i]? =some f/\f.type=t/\f.offset=o:=by
 rw[<-hs,gM]at hL;cases h:fs.toList[i]? with
 | none=>rw[h]at hL;simp at hL
 | some f=>
  rw[h]at hL;simp only[Option.map_some,iS,Prod.mk.injEq]at hL;exact⟨f,by simpa using h,hL.1,hL.2⟩
theorem bP{H:Type}{enc:TypeId×Value->H}{W:World}{base fuel:Nat}{spare:Nat->Bool}{held:Bool}{t:TypeId}{cs:List Value}{x:DataW H×List MemPlace}{L:List (TypeId×Nat)}
 (ht:Tryz.prog.underlying t=some (.struct (Tryz.prog.fieldsOf t)))(hs:(Tryz.prog.fieldsOf t).toList.map (fun f=>(f.type,f.offset))=L)
 (h:DataW.trod enc Tryz.prog W base spare held fuel t cs=some x):
 ∃(xs:List (DataW H×List MemPlace)) (n:Nat),x.1=.agg (xs.map (·.1))/\cs.length=Tryz.prog.cellsOf t/\xs.length=L.length/\
  ∀(i:Nat) (u:TypeId) (o:Nat),L[i]? =some (u,o)->DataW.trod enc Tryz.prog W base spare held n u ((cs.drop o).take (Tryz.prog.cellsOf u))=xs[i]?:=by
 obtain⟨xs,n,_,rfl,hl,hlen,hf⟩:=DataW.trod_struct ht h;refine⟨xs,n,rfl,hl,by rw[hlen,<-hs];simp,fun i u o hL=>?_⟩;obtain⟨f,h1,rfl,rfl⟩:=fld hs hL;exact hf i f h1
theorem iZ{H:Type}(D:Nat->DataW H)(n:Nat)(c:Nat)(h:∀i,i<n->c<=Rows.uptoBulk (D i)):n*c<=Rows.uptoBulkAll ((List.range n).map D)/\∀i,i<n->Rows.uptoBulk (D i)<=Rows.uptoBulkAll ((List.range n).map D):=by
 have key:∀l:List Nat,(∀i∈l,i<n)->l.length*c<=Rows.uptoBulkAll (l.map D)/\∀i∈l,Rows.uptoBulk (D i)<=Rows.uptoBulkAll (l.map D):=by
  intro l;induction l with
  | nil=>intro _;exact⟨by simp,fun d hd=>by simp at hd⟩
  | cons x r ih=>
   intro hx;have h1:=h x (hx x List.mem_cons_self);have h2:=ih fun i hi=>hx i (mC _ hi);simp only[List.map_cons,Rows.uptoBulkAll,lC];refine⟨by rw[Nat.add_mul];omega,fun i hi=>?_⟩;rcases List.mem_cons.1 hi with rfl | hi
   ·omega
   ·have:=h2.2 i hi;omega
 have:=key (List.range n) fun i hi=>List.mem_range.1 hi;rw[List.length_range]at this;exact⟨this.1,fun i hi=>this.2 i (List.mem_range.2 hi)⟩
theorem iW{H:Type}{enc:TypeId×Value->H}{W:World}{base fuel:Nat}{spare:Nat->Bool}{held:Bool}{α:Type}[Inhabited α]{t e:TypeId}{z:Nat}(f:α->List Value)(q:α->DataW H->Prop){v:Value}{d:DataW H}{p:List MemPlace}
 (ht:Tryz.prog.underlying t=some (.slice e))(hz:Tryz.prog.cellsOf e=z)(hz0:0<z)(hf:∀a,(f a).length=z)
 (hop:∀(n:Nat) (cs:List Value) (x:DataW H×List MemPlace),DataW.trod enc Tryz.prog W base spare held n e cs=some x->∃a,cs=f a/\q a x.1)
 (h:DataW.trod enc Tryz.prog W base spare held fuel t [v]=some (d,p)):
 ∃l:List α,RowZ z W W.heap.size v (l.map f)/\(∃D:Nat->DataW H,Rows.uptoBulkAll ((List.range l.length).map D)<=Rows.uptoBulk d/\∀(i:Nat) (a:α),l[i]? =some a->q a (D i)):=by
 rcases open_slice ht h with⟨hv,hx⟩ | ⟨a,len,cap,m,n,D,Pl,hv,hb,hl,hm,hmm,hx,hc⟩
 ·simp only[List.cons.injEq,and_true]at hv;subst hv;exact⟨[],RowZ.nil _ _ _,fun _=> .nil,by simp[Rows.uptoBulkAll],fun i a ha=>by simp at ha⟩
 ·simp only[List.cons.injEq,and_true]at hv;subst hv;simp only[Prod.mk.injEq]at hx;obtain⟨rfl,_⟩:=hx;have hlm:len<=m:=by rw[hmm];split<;>omega
  rw[hz]at hc;obtain⟨L,hL⟩:=choose_lt (α:=α) (n:=len) (p:=fun i x=>(∀j,j<z->W.cell? ((a.add (i*z)).add j)=(f x)[j]?)/\q x (D i)) fun i hi=>by
   obtain⟨cs,hcs,htr⟩:=hc i (by omega);obtain⟨x,rfl,hbk⟩:=hop _ _ _ htr;obtain⟨_,_,hcell⟩:=World.cells?_some hcs;exact⟨x,hcell,hbk⟩
  rw[Rows.uptoBulk];refine⟨(List.range len).map L,?_,D,by rw[lM,List.length_range];omega,fun i a ha=>?_⟩
  rotate_left
  ·rw[gM]at ha;by_cases hi:i<len
   ·rw[List.getElem?_range hi]at ha;simp only[Option.map_some,iS]at ha;subst ha;exact(hL i hi).2
   ·rw[List.getElem?_eq_none (by simpa using hi)]at ha;simp at ha
  rcases Nat.eq_zero_or_pos len with h0 | h0
  ·subst h0;exact⟨⟨some a,cap,rfl,Nat.zero_le _,fun i d hd=>by simp at hd⟩⟩
  have c00:=(hL 0 h0).1 0 hz0;rw[gE (by rw[hf];exact hz0)]at c00;obtain⟨bk,o,sp⟩:=a;have hsp:sp=none:=by
   cases sp with
   | none=>rfl
   | some x=>
    rw[show((⟨bk,o,some x⟩:Addr).add (0*z)).add 0=⟨bk,o,some x⟩ by simp[Addr.add]]at c00;unfold World.cell? at c00;simp only at c00;cases hh:W.heap[bk]? with
    | none=>rw[hh]at c00;simp at c00
    | some ob=>rw[hh]at c00;cases ob<;>simp at c00
  subst hsp;refine⟨⟨some ⟨bk,o,none⟩,cap,by simp,by simpa using hl,fun i x hx=>⟨bk,o,rfl,?_,fun j u hu=>?_⟩⟩⟩
  ·rw[dK,dK]at c00;exact Qr c00
  ·rw[gM,gM]at hx;by_cases hi:i<len
   ·rw[List.getElem?_range hi]at hx;simp only[Option.map_some,iS]at hx;subst hx;have hj:j<z:=by
     have:=(gS hu).1;rwa[hf]at this
    have:=(hL i hi).1 j hj;rw[dK,dK,hu]at this;exact this
   ·rw[List.getElem?_eq_none (by simpa using hi)]at hx;simp at hx
theorem tQ:Tryz.prog.cellsOf 3=1:=by kernel_rfl
theorem Bn:Tryz.prog.cellsOf 9=1:=by kernel_rfl
theorem Tq:Tryz.prog.cellsOf 4=1:=by kernel_rfl
theorem yB:Tryz.prog.cellsOf 50=3:=by kernel_rfl
theorem Nt:Tryz.prog.cellsOf 73=6:=by kernel_rfl
theorem Qs:Tryz.prog.cellsOf 67=1:=by kernel_rfl
theorem Ro:Tryz.prog.cellsOf 75=2:=by kernel_rfl
theorem pG:Tryz.prog.cellsOf 23=1:=by kernel_rfl
theorem Nv:Tryz.prog.cellsOf 52=7:=by kernel_rfl
theorem Qt:Tryz.prog.cellsOf 22=1:=by kernel_rfl
theorem Rm:Tryz.prog.cellsOf 25=4:=by kernel_rfl
theorem Rl:Tryz.prog.cellsOf 101=4:=by kernel_rfl
theorem Nu:Tryz.prog.cellsOf 26=1:=by kernel_rfl
theorem Ny:Tryz.prog.cellsOf 111=2:=by kernel_rfl
theorem Qw:Tryz.prog.cellsOf 55=1:=by kernel_rfl
theorem Nw:Tryz.prog.cellsOf 57=6:=by kernel_rfl
theorem Qu:Tryz.prog.cellsOf 33=1:=by kernel_rfl
theorem Qv:Tryz.prog.cellsOf 35=1:=by kernel_rfl
theorem Rn:Tryz.prog.cellsOf 28=4:=by kernel_rfl
theorem Tp:Tryz.prog.cellsOf 30=11:=by kernel_rfl
theorem Uc:Tryz.prog.underlying 50=some (.struct (Tryz.prog.fieldsOf 50)):=by kernel_rfl
theorem Um:(Tryz.prog.fieldsOf 50).toList.map (fun f=>(f.type,f.offset))=[(3,0),(3,1),(3,2)]:=by kernel_rfl
theorem Rx:Tryz.prog.underlying 73=some (.struct (Tryz.prog.fieldsOf 73)):=by kernel_rfl
theorem Tc:(Tryz.prog.fieldsOf 73).toList.map (fun f=>(f.type,f.offset))=[(50,0),(50,3)]:=by kernel_rfl
theorem Uf:Tryz.prog.underlying 75=some (.struct (Tryz.prog.fieldsOf 75)):=by kernel_rfl
theorem Ur:(Tryz.prog.fieldsOf 75).toList.map (fun f=>(f.type,f.offset))=[(9,0),(67,1)]:=by kernel_rfl
theorem Ry:Tryz.prog.underlying 52=some (.struct (Tryz.prog.fieldsOf 52)):=by kernel_rfl
theorem Te:(Tryz.prog.fieldsOf 52).toList.map (fun f=>(f.type,f.offset))=[(9,0),(50,1),(23,4),(23,5),(23,6)]:=by kernel_rfl
theorem Ue:Tryz.prog.underlying 25=some (.struct (Tryz.prog.fieldsOf 25)):=by kernel_rfl
theorem Uo:(Tryz.prog.fieldsOf 25).toList.map (fun f=>(f.type,f.offset))=[(23,0),(23,1),(23,2),(23,3)]:=by kernel_rfl
theorem Ud:Tryz.prog.underlying 101=some (.struct (Tryz.prog.fieldsOf 101)):=by kernel_rfl
theorem Un:(Tryz.prog.fieldsOf 101).toList.map (fun f=>(f.type,f.offset))=[(9,0),(50,1)]:=by kernel_rfl
theorem Sa:Tryz.prog.underlying 111=some (.struct (Tryz.prog.fieldsOf 111)):=by kernel_rfl
theorem Ti:(Tryz.prog.fieldsOf 111).toList.map (fun f=>(f.type,f.offset))=[(9,0),(3,1)]:=by kernel_rfl
theorem Rz:Tryz.prog.underlying 57=some (.struct (Tryz.prog.fieldsOf 57)):=by kernel_rfl
theorem Tf:(Tryz.prog.fieldsOf 57).toList.map (fun f=>(f.type,f.offset))=[(9,0),(50,1),(26,4),(55,5)]:=by kernel_rfl
theorem Ez:Tryz.prog.underlying 35=some (.struct (Tryz.prog.fieldsOf 35)):=by kernel_rfl
theorem Qj:(Tryz.prog.fieldsOf 35).toList.map (fun f=>(f.type,f.offset))=[(33,0)]:=by kernel_rfl
theorem Qz:Tryz.prog.underlying 28=some (.struct (Tryz.prog.fieldsOf 28)):=by kernel_rfl
theorem Uq:(Tryz.prog.fieldsOf 28).toList.map (fun f=>(f.type,f.offset))=[(3,0),(3,1),(3,2),(3,3)]:=by kernel_rfl
theorem Lb:Tryz.prog.underlying 30=some (.struct (Tryz.prog.fieldsOf 30)):=by kernel_rfl
theorem Td:(Tryz.prog.fieldsOf 30).toList.map (fun f=>(f.type,f.offset))=[(22,0),(25,1),(4,5),(26,6),(28,7)]:=by kernel_rfl
theorem Rh{α:Type}{l:List α}(h:l.length=1):∃x0,l=[x0]:=by
 match l,h with
 | [x0],_=>exact⟨x0,rfl⟩
theorem xQ{α:Type}{l:List α}(h:l.length=2):∃x0 x1,l=[x0,x1]:=by
 match l,h with
 | [x0,x1],_=>exact⟨x0,x1,rfl⟩
theorem Rf{α:Type}{l:List α}(h:l.length=3):∃x0 x1 x2,l=[x0,x1,x2]:=by
 match l,h with
 | [x0,x1,x2],_=>exact⟨x0,x1,x2,rfl⟩
theorem xP{α:Type}{l:List α}(h:l.length=4):∃x0 x1 x2 x3,l=[x0,x1,x2,x3]:=by
 match l,h with
 | [x0,x1,x2,x3],_=>exact⟨x0,x1,x2,x3,rfl⟩
theorem Re{α:Type}{l:List α}(h:l.length=5):∃x0 x1 x2 x3 x4,l=[x0,x1,x2,x3,x4]:=by
 match l,h with
 | [x0,x1,x2,x3,x4],_=>exact⟨x0,x1,x2,x3,x4,rfl⟩
theorem Rc{α:Type}{l:List α}(h:l.length=6):∃x0 x1 x2 x3 x4 x5,l=[x0,x1,x2,x3,x4,x5]:=by
 match l,h with
 | [x0,x1,x2,x3,x4,x5],_=>exact⟨x0,x1,x2,x3,x4,x5,rfl⟩
theorem Uj{α:Type}{l:List α}(h:l.length=7):∃x0 x1 x2 x3 x4 x5 x6,l=[x0,x1,x2,x3,x4,x5,x6]:=by
 match l,h with
 | [x0,x1,x2,x3,x4,x5,x6],_=>exact⟨x0,x1,x2,x3,x4,x5,x6,rfl⟩
theorem Sl{α:Type}{l:List α}(h:l.length=11):∃x0 x1 x2 x3 x4 x5 x6 x7 x8 x9 x10,l=[x0,x1,x2,x3,x4,x5,x6,x7,x8,x9,x10]:=by
 match l,h with
 | [x0,x1,x2,x3,x4,x5,x6,x7,x8,x9,x10],_=>exact⟨x0,x1,x2,x3,x4,x5,x6,x7,x8,x9,x10,rfl⟩
section
variable{H:Type}{enc:TypeId×Value->H}{W:World}{base fuel:Nat}{spare:Nat->Bool}{held:Bool}{cs:List Value}{x:DataW H×List MemPlace}
theorem qE(h:DataW.trod enc Tryz.prog W base spare held fuel 50 cs=some x):∃v:Ve,cs=[.int .i64 v.a,.int .i64 v.b,.int .i64 v.c]/\yF v:=by
 obtain⟨xs,n,hx,hl,hlen,hf⟩:=bP Uc Um h;rw[yB]at hl;obtain⟨c0,c1,c2,rfl⟩:=Rf hl;obtain⟨y0,y1,y2,rfl⟩:=Rf hlen;have k0:=hf 0 _ _ rfl;rw[tQ]at k0;have k1:=hf 1 _ _ rfl;rw[tQ]at k1;have k2:=hf 2 _ _ rfl;rw[tQ]at k2;simp only[List.drop_zero,List.drop_succ_cons,List.take_succ_cons,List.take_zero,gZ,List.getElem?_cons_succ]at k0 k1 k2;obtain⟨m0,e0,_,w0⟩:=DataW.trod_int Tryz.underlying3 k0;obtain⟨m1,e1,_,w1⟩:=DataW.trod_int Tryz.underlying3 k1;obtain⟨m2,e2,_,w2⟩:=DataW.trod_int Tryz.underlying3 k2;simp only[List.cons.injEq,and_true]at e0 e1 e2;subst e0 e1 e2;exact⟨⟨m0,m1,m2⟩,rfl,w0,w1,w2⟩
theorem Pi(h:DataW.trod enc Tryz.prog W base spare held fuel 73 cs=some x):∃s:Sp,cs=aU s/\3<=Rows.uptoBulk x.1:=by
 obtain⟨xs,n,hx,hl,hlen,hf⟩:=bP Rx Tc h;rw[Nt]at hl;obtain⟨c0,c1,c2,c3,c4,c5,rfl⟩:=Rc hl;obtain⟨y0,y1,rfl⟩:=xQ hlen;have k0:=hf 0 _ _ rfl;rw[yB]at k0;have k1:=hf 1 _ _ rfl;rw[yB]at k1;simp only[List.drop_zero,List.drop_succ_cons,List.take_succ_cons,List.take_zero,gZ,List.getElem?_cons_succ]at k0 k1;obtain⟨u0,e0,_⟩:=qE k0;obtain⟨u1,e1,_⟩:=qE k1;simp only[List.cons.injEq,and_true]at e0 e1;obtain⟨rfl,rfl,rfl⟩:=e0;obtain⟨rfl,rfl,rfl⟩:=e1;refine⟨⟨u0,u1⟩,rfl,?_⟩;rw[hx];simp only[List.map_cons,List.map_nil,Rows.uptoBulk,Rows.uptoBulkAll];have:=mX y0.1;have:=mX y1.1;omega
theorem Pj{v:Value}{d:DataW H}{p:List MemPlace}(h:DataW.trod enc Tryz.prog W base spare held fuel 67 [v]=some (d,p)):∃l:List Sp,iH W W.heap.size v l/\3*l.length<=Rows.uptoBulk d:=by
 obtain⟨l,hr,D,hD,hq⟩:=iW aU (fun s d=>3<=Rows.uptoBulk d) Tryz.underlying67 Nt (by decide) (fun _=>rfl) (fun _ _ _ h=>Pi h) h;have hb:=iZ D l.length 3 fun i hi=>by have:=hq i _ (gE hi);omega
 exact⟨l,hr,by omega⟩
theorem Pq(h:DataW.trod enc Tryz.prog W base spare held fuel 75 cs=some x):∃a:Dp×Value,cs=dJ a.1 a.2/\iH W W.heap.size a.2 a.1.rg/\3<=Rows.uptoBulk x.1/\a.1.name.length<=Rows.uptoBulk x.1/\3*a.1.rg.length<=Rows.uptoBulk x.1:=by
 obtain⟨xs,n,hx,hl,hlen,hf⟩:=bP Uf Ur h;rw[Ro]at hl;obtain⟨c0,c1,rfl⟩:=xQ hl;obtain⟨y0,y1,rfl⟩:=xQ hlen;have k0:=hf 0 _ _ rfl;rw[Bn]at k0;have k1:=hf 1 _ _ rfl;rw[Qs]at k1;simp only[List.drop_zero,List.drop_succ_cons,List.take_succ_cons,List.take_zero,gZ,List.getElem?_cons_succ]at k0 k1;obtain⟨s0,e0,g0,_⟩:=DataW.trod_string Tryz.underlying9 k0;obtain⟨d1,p1⟩:=y1;obtain⟨l,hl1,hl2⟩:=Pj k1;simp only[List.cons.injEq,and_true]at e0;subst e0 g0;refine⟨(⟨s0.data.toList,l⟩,c1),rfl,hl1,?_⟩;rw[hx];simp only[List.map_cons,List.map_nil,Rows.uptoBulk,Rows.uptoBulkAll];have:=mX d1;exact⟨by omega,by show s0.data.toList.length<=_;omega,by show 3*l.length<=_;omega⟩
theorem jG{v:Value}{d:DataW H}{p:List MemPlace}(h:DataW.trod enc Tryz.prog W base spare held fuel 23 [v]=some (d,p)):∃l:List Dp,DpsAt W W.heap.size v l/\kK (Rows.uptoBulk d) l:=by
 obtain⟨l,hr,D,hD,hq⟩:=iW (fun a:Dp×Value=>dJ a.1 a.2) (fun a d=>iH W W.heap.size a.2 a.1.rg/\3<=Rows.uptoBulk d/\a.1.name.length<=Rows.uptoBulk d/\3*a.1.rg.length<=Rows.uptoBulk d) Tryz.underlying23 Ro (by decide) (fun _=>rfl) (fun _ _ _ h=>Pq h) h;have hb:=iZ D l.length 3 fun i hi=>(hq i _ (gE hi)).2.1;refine⟨l.map (·.1),⟨l.map (·.2),by simp,?_,fun i x c hx hc=>?_⟩,by rw[lM];omega,fun x hx=>?_⟩
 ·rw[List.zipWith_map];have:(List.zipWith (fun(a b:Dp×Value)=>dJ a.1 b.2) l l)=l.map fun a=>dJ a.1 a.2:=by rw[List.zipWith_self]
  rw[this];exact hr
 ·rw[gM]at hx hc;cases ha:l[i]? with
  | none=>rw[ha]at hx;simp at hx
  | some a=>
   rw[ha]at hx hc;simp only[Option.map_some,iS]at hx hc;subst hx;subst hc;exact(hq i a ha).1
 ·obtain⟨a,ha,rfl⟩:=List.mem_map.1 hx;obtain⟨i,hi,rfl⟩:=eI.1 ha;have h1:=(hq i _ (gE hi)).2.2;have h2:=hb.2 i hi;exact⟨by omega,by omega⟩
theorem Pm(h:DataW.trod enc Tryz.prog W base spare held fuel 52 cs=some x):∃a:Pk×(Value×(Value×Value)),cs=aL a.1 a.2/\PkAt W W.heap.size a.1 a.2.1 a.2.2.1 a.2.2.2/\1<=Rows.uptoBulk x.1/\qZ (Rows.uptoBulk x.1) a.1:=by
 obtain⟨xs,n,hx,hl,hlen,hf⟩:=bP Ry Te h;rw[Nv]at hl;obtain⟨c0,c1,c2,c3,c4,c5,c6,rfl⟩:=Uj hl;obtain⟨y0,y1,y2,y3,y4,rfl⟩:=Re hlen;have k0:=hf 0 _ _ rfl;rw[Bn]at k0;have k1:=hf 1 _ _ rfl;rw[yB]at k1;have k2:=hf 2 _ _ rfl;rw[pG]at k2;have k3:=hf 3 _ _ rfl;rw[pG]at k3;have k4:=hf 4 _ _ rfl;rw[pG]at k4;simp only[List.drop_zero,List.drop_succ_cons,List.take_succ_cons,List.take_zero,gZ,List.getElem?_cons_succ]at k0 k1 k2 k3 k4;obtain⟨s0,e0,g0,_⟩:=DataW.trod_string Tryz.underlying9 k0;obtain⟨u,e1,_⟩:=qE k1;obtain⟨d2,p2⟩:=y2;obtain⟨d3,p3⟩:=y3;obtain⟨d4,p4⟩:=y4;obtain⟨l2,a2,b2⟩:=jG k2;obtain⟨l3,a3,b3⟩:=jG k3;obtain⟨l4,a4,b4⟩:=jG k4;simp only[List.cons.injEq,and_true]at e0 e1;obtain⟨rfl,rfl,rfl⟩:=e1;subst e0 g0;refine⟨(⟨s0.data.toList,u,l2,l3,l4⟩,(c4,(c5,c6))),rfl,⟨a2,a3,a4⟩,?_⟩
 rw[hx];simp only[List.map_cons,List.map_nil,Rows.uptoBulk,Rows.uptoBulkAll];exact⟨by omega,by show s0.data.toList.length<=_;omega,b2.mono (by omega),b3.mono (by omega),b4.mono (by omega)⟩
theorem Lu{v:Value}{d:DataW H}{p:List MemPlace}(h:DataW.trod enc Tryz.prog W base spare held fuel 22 [v]=some (d,p)):∃l:List Pk,PksAt W W.heap.size v l/\l.length<=Rows.uptoBulk d/\∀p∈l,qZ (Rows.uptoBulk d) p:=by
 obtain⟨l,hr,D,hD,hq⟩:=iW (fun a:Pk×(Value×(Value×Value))=>aL a.1 a.2) (fun a d=>PkAt W W.heap.size a.1 a.2.1 a.2.2.1 a.2.2.2/\1<=Rows.uptoBulk d/\qZ (Rows.uptoBulk d) a.1) Tryz.underlying22 Nv (by decide) (fun _=>rfl) (fun _ _ _ h=>Pm h) h;have hb:=iZ D l.length 1 fun i hi=>(hq i _ (gE hi)).2.1;refine⟨l.map (·.1),⟨l.map (·.2),by simp,?_,fun i x c hx hc=>?_⟩,by rw[lM];omega,fun x hx=>?_⟩
 ·rw[List.zipWith_map];have:(List.zipWith (fun(a b:Pk×(Value×(Value×Value)))=>aL a.1 b.2) l l)=l.map fun a=>aL a.1 a.2:=by rw[List.zipWith_self]
  rw[this];exact hr
 ·rw[gM]at hx hc;cases ha:l[i]? with
  | none=>rw[ha]at hx;simp at hx
  | some a=>
   rw[ha]at hx hc;simp only[Option.map_some,iS]at hx hc;subst hx;subst hc;exact(hq i a ha).1
 ·obtain⟨a,ha,rfl⟩:=List.mem_map.1 hx;obtain⟨i,hi,rfl⟩:=eI.1 ha;have h1:=(hq i _ (gE hi)).2.2;have h2:=hb.2 i hi;exact h1.mono (by omega)
theorem Pp(h:DataW.trod enc Tryz.prog W base spare held fuel 25 cs=some x):∃(m:Mf) (v1 v2 v3 v4:Value),cs=[v1,v2,v3,v4]/\MfAt W W.heap.size m v1 v2 v3 v4/\zP (Rows.uptoBulk x.1) m:=by
 obtain⟨xs,n,hx,hl,hlen,hf⟩:=bP Ue Uo h;rw[Rm]at hl;obtain⟨c0,c1,c2,c3,rfl⟩:=xP hl;obtain⟨y0,y1,y2,y3,rfl⟩:=xP hlen;have k0:=hf 0 _ _ rfl;rw[pG]at k0;have k1:=hf 1 _ _ rfl;rw[pG]at k1;have k2:=hf 2 _ _ rfl;rw[pG]at k2;have k3:=hf 3 _ _ rfl;rw[pG]at k3;simp only[List.drop_zero,List.drop_succ_cons,List.take_succ_cons,List.take_zero,gZ,List.getElem?_cons_succ]at k0 k1 k2 k3;obtain⟨d0,p0⟩:=y0;obtain⟨d1,p1⟩:=y1;obtain⟨d2,p2⟩:=y2;obtain⟨d3,p3⟩:=y3;obtain⟨l0,a0,b0⟩:=jG k0;obtain⟨l1,a1,b1⟩:=jG k1;obtain⟨l2,a2,b2⟩:=jG k2;obtain⟨l3,a3,b3⟩:=jG k3;refine⟨⟨l0,l1,l2,l3⟩,c0,c1,c2,c3,rfl,⟨a0,a1,a2,a3⟩,?_⟩;rw[hx];simp only[List.map_cons,List.map_nil,Rows.uptoBulk,Rows.uptoBulkAll];exact⟨b0.mono (by omega),b1.mono (by omega),b2.mono (by omega),b3.mono (by omega)⟩
theorem Lv(h:DataW.trod enc Tryz.prog W base spare held fuel 101 cs=some x):∃p:Pn,cs=aG p/\(p.name.length+3<=Rows.uptoBulk x.1/\yF p.v):=by
 obtain⟨xs,n,hx,hl,hlen,hf⟩:=bP Ud Un h;rw[Rl]at hl;obtain⟨c0,c1,c2,c3,rfl⟩:=xP hl;obtain⟨y0,y1,rfl⟩:=xQ hlen;have k0:=hf 0 _ _ rfl;rw[Bn]at k0;have k1:=hf 1 _ _ rfl;rw[yB]at k1;simp only[List.drop_zero,List.drop_succ_cons,List.take_succ_cons,List.take_zero,gZ,List.getElem?_cons_succ]at k0 k1;obtain⟨s0,e0,g0,_⟩:=DataW.trod_string Tryz.underlying9 k0;obtain⟨u,e1,hu⟩:=qE k1;simp only[List.cons.injEq,and_true]at e0 e1;obtain⟨rfl,rfl,rfl⟩:=e1;subst e0 g0;refine⟨⟨s0.data.toList,u⟩,rfl,?_,hu⟩;rw[hx];simp only[List.map_cons,List.map_nil,Rows.uptoBulk,Rows.uptoBulkAll];have:=mX y1.1;omega
theorem xK{v:Value}{d:DataW H}{p:List MemPlace}(h:DataW.trod enc Tryz.prog W base spare held fuel 26 [v]=some (d,p)):∃l:List Pn,bN W W.heap.size v l/\3*l.length<=Rows.uptoBulk d/\∀p∈l,p.name.length<=Rows.uptoBulk d/\yF p.v:=by
 obtain⟨l,hr,D,hD,hq⟩:=iW aG (fun p d=>p.name.length+3<=Rows.uptoBulk d/\yF p.v) Tryz.underlying26 Rl (by decide) (fun _=>rfl) (fun _ _ _ h=>Lv h) h;have hb:=iZ D l.length 3 fun i hi=>by have:=(hq i _ (gE hi)).1;omega
 refine⟨l,hr,by omega,fun p hp=>?_⟩;obtain⟨i,hi,rfl⟩:=eI.1 hp;have h1:=hq i _ (gE hi);have h2:=hb.2 i hi;exact⟨by omega,h1.2⟩
theorem Ie(h:DataW.trod enc Tryz.prog W base spare held fuel 111 cs=some x):∃p:Eg,cs=bT p/\p.label.length+3<=Rows.uptoBulk x.1:=by
 obtain⟨xs,n,hx,hl,hlen,hf⟩:=bP Sa Ti h;rw[Ny]at hl;obtain⟨c0,c1,rfl⟩:=xQ hl;obtain⟨y0,y1,rfl⟩:=xQ hlen;have k0:=hf 0 _ _ rfl;rw[Bn]at k0;have k1:=hf 1 _ _ rfl;rw[tQ]at k1;simp only[List.drop_zero,List.drop_succ_cons,List.take_succ_cons,List.take_zero,gZ,List.getElem?_cons_succ]at k0 k1;obtain⟨s0,e0,g0,_⟩:=DataW.trod_string Tryz.underlying9 k0;obtain⟨m1,e1,_,_⟩:=DataW.trod_int Tryz.underlying3 k1;simp only[List.cons.injEq,and_true]at e0 e1;subst e0 e1 g0;refine⟨⟨s0.data.toList,m1⟩,rfl,?_⟩;rw[hx];simp only[List.map_cons,List.map_nil,Rows.uptoBulk,Rows.uptoBulkAll];have:=mX y1.1;omega
theorem Da{v:Value}{d:DataW H}{p:List MemPlace}(h:DataW.trod enc Tryz.prog W base spare held fuel 55 [v]=some (d,p)):∃l:List Eg,nD W W.heap.size v l/\3*l.length<=Rows.uptoBulk d/\∀p∈l,p.label.length<=Rows.uptoBulk d:=by
 obtain⟨l,hr,D,hD,hq⟩:=iW bT (fun p d=>p.label.length+3<=Rows.uptoBulk d) Tryz.underlying55 Ny (by decide) (fun _=>rfl) (fun _ _ _ h=>Ie h) h;have hb:=iZ D l.length 3 fun i hi=>by have:=hq i _ (gE hi);omega
 refine⟨l,hr,by omega,fun p hp=>?_⟩;obtain⟨i,hi,rfl⟩:=eI.1 hp;have:=hq i _ (gE hi);have:=hb.2 i hi;omega
theorem Ic(h:DataW.trod enc Tryz.prog W base spare held fuel 57 cs=some x):∃a:Nd×(Value×Value),cs=aP a.1 a.2/\(bN W W.heap.size a.2.1 a.1.ctx/\nD W W.heap.size a.2.2 a.1.edges)/\1<=Rows.uptoBulk x.1/\zO (Rows.uptoBulk x.1) a.1:=by
 obtain⟨xs,n,hx,hl,hlen,hf⟩:=bP Rz Tf h;rw[Nw]at hl;obtain⟨c0,c1,c2,c3,c4,c5,rfl⟩:=Rc hl;obtain⟨y0,y1,y2,y3,rfl⟩:=xP hlen;have k0:=hf 0 _ _ rfl;rw[Bn]at k0;have k1:=hf 1 _ _ rfl;rw[yB]at k1;have k2:=hf 2 _ _ rfl;rw[Nu]at k2;have k3:=hf 3 _ _ rfl;rw[Qw]at k3;simp only[List.drop_zero,List.drop_succ_cons,List.take_succ_cons,List.take_zero,gZ,List.getElem?_cons_succ]at k0 k1 k2 k3;obtain⟨s0,e0,g0,_⟩:=DataW.trod_string Tryz.underlying9 k0;obtain⟨u,e1,hu⟩:=qE k1;obtain⟨d2,p2⟩:=y2;obtain⟨d3,p3⟩:=y3;obtain⟨ps,hp,hp1,hp2⟩:=xK k2;obtain⟨es,he,he1,he2⟩:=Da k3;simp only[List.cons.injEq,and_true]at e0 e1;obtain⟨rfl,rfl,rfl⟩:=e1;subst e0 g0;refine⟨(⟨s0.data.toList,u,ps,es⟩,(c4,c5)),rfl,⟨hp,he⟩,?_⟩;rw[hx];simp only[List.map_cons,List.map_nil,Rows.uptoBulk,Rows.uptoBulkAll]
 refine⟨by omega,by show s0.data.toList.length<=_;omega,by show 3*ps.length<=_;omega,by show 3*es.length<=_;omega,fun p hp=>?_,fun p hp=>?_,hu⟩
 ·have:=hp2 p hp;exact⟨by omega,this.2⟩
 ·have:=he2 p hp;omega
theorem Cz{v:Value}{d:DataW H}{p:List MemPlace}(h:DataW.trod enc Tryz.prog W base spare held fuel 33 [v]=some (d,p)):∃g:List Nd,NdsAt W W.heap.size v g/\g.length<=Rows.uptoBulk d/\∀x∈g,zO (Rows.uptoBulk d) x:=by
 obtain⟨l,hr,D,hD,hq⟩:=iW (fun a:Nd×(Value×Value)=>aP a.1 a.2) (fun a d=>(bN W W.heap.size a.2.1 a.1.ctx/\nD W W.heap.size a.2.2 a.1.edges)/\1<=Rows.uptoBulk d/\zO (Rows.uptoBulk d) a.1) Tryz.underlying33 Nw (by decide) (fun _=>rfl) (fun _ _ _ h=>Ic h) h;have hb:=iZ D l.length 1 fun i hi=>(hq i _ (gE hi)).2.1;refine⟨l.map (·.1),⟨l.map (·.2),by simp,?_,fun i x c hx hc=>?_⟩,by rw[lM];omega,fun x hx=>?_⟩
 ·rw[List.zipWith_map];have:(List.zipWith (fun(a b:Nd×(Value×Value))=>aP a.1 b.2) l l)=l.map fun a=>aP a.1 a.2:=by rw[List.zipWith_self]
  rw[this];exact hr
 ·rw[gM]at hx hc;cases ha:l[i]? with
  | none=>rw[ha]at hx;simp at hx
  | some a=>
   rw[ha]at hx hc;simp only[Option.map_some,iS]at hx hc;subst hx;subst hc;exact(hq i a ha).1
 ·obtain⟨a,ha,rfl⟩:=List.mem_map.1 hx;obtain⟨i,hi,rfl⟩:=eI.1 ha;have h1:=(hq i _ (gE hi)).2.2;have h2:=hb.2 i hi;exact h1.mono (by omega)
theorem Ai(h:DataW.trod enc Tryz.prog W base spare held fuel 28 cs=some x):∃l1 l2 l3 l4:Int,cs=[.int .i64 l1,.int .i64 l2,.int .i64 l3,.int .i64 l4]:=by
 obtain⟨xs,n,hx,hl,hlen,hf⟩:=bP Qz Uq h;rw[Rn]at hl;obtain⟨c0,c1,c2,c3,rfl⟩:=xP hl;obtain⟨y0,y1,y2,y3,rfl⟩:=xP hlen;have k0:=hf 0 _ _ rfl;rw[tQ]at k0;have k1:=hf 1 _ _ rfl;rw[tQ]at k1;have k2:=hf 2 _ _ rfl;rw[tQ]at k2;have k3:=hf 3 _ _ rfl;rw[tQ]at k3;simp only[List.drop_zero,List.drop_succ_cons,List.take_succ_cons,List.take_zero,gZ,List.getElem?_cons_succ]at k0 k1 k2 k3;obtain⟨m0,e0,_,_⟩:=DataW.trod_int Tryz.underlying3 k0;obtain⟨m1,e1,_,_⟩:=DataW.trod_int Tryz.underlying3 k1;obtain⟨m2,e2,_,_⟩:=DataW.trod_int Tryz.underlying3 k2;obtain⟨m3,e3,_,_⟩:=DataW.trod_int Tryz.underlying3 k3;simp only[List.cons.injEq,and_true]at e0 e1 e2 e3;subst e0 e1 e2 e3;exact⟨m0,m1,m2,m3,rfl⟩
end
theorem open_graph{H:Type}{enc:TypeId×Value->H}{W:World}{base:Nat}{v:Value}{d:DataW H}{p:List MemPlace}
 (hv:Value.okWide Tryz.prog W .any base 35 v)(h:DataW.Trod enc Tryz.prog W 0 (fun _=>true) true 35 v d p):
 ∃a:Value×List Nd,v=.agg #[a.1]/\(NdsAt W W.heap.size a.1 a.2/\a.2.length<=Rows.uptoBulk d/\∀x∈a.2,zO (Rows.uptoBulk d) x):=by
 obtain⟨fuel,hf0⟩:=h;obtain⟨cs,rfl,hcs⟩:=okWide_struct Ez hv;obtain⟨xs,n,hx,hl,hlen,hf⟩:=bP Ez Qj hf0;obtain⟨cl⟩:=cs;have e:(Value.agg ⟨cl⟩).cells.toList=cl:=rfl;rw[e]at hf hl;rw[Qv]at hl;obtain⟨c0,rfl⟩:=Rh hl;obtain⟨y0,rfl⟩:=Rh hlen;have k0:=hf 0 _ _ rfl;rw[Qu]at k0;simp only[List.drop_zero,List.drop_succ_cons,List.take_succ_cons,List.take_zero,gZ,List.getElem?_cons_succ]at k0;obtain⟨d0,p0⟩:=y0;obtain⟨g,h1,h2,h3⟩:=Cz k0;refine⟨(c0,g),rfl,h1,?_⟩;have hd:d=.agg [d0]:=hx;rw[hd];simp only[Rows.uptoBulk,Rows.uptoBulkAll];exact⟨by show g.length<=_;omega,fun x hx=>(h3 x hx).mono (by omega)⟩
structure Prob where
 l:List Pk
 m:Mf
 pins:List Pn
 dev:Bool
 vl:Value
 v1:Value
 v2:Value
 v3:Value
 v4:Value
 vp:Value
 l1:Int
 l2:Int
 l3:Int
 l4:Int
def Prob.val(q:Prob):Value:=.agg #[q.vl,q.v1,q.v2,q.v3,q.v4,.bool q.dev,q.vp,.int .i64 q.l1,.int .i64 q.l2,.int .i64 q.l3,.int .i64 q.l4]
structure ProbAt(w:World)(B:Nat)(n:Nat)(q:Prob):Prop where
 pks:PksAt w B q.vl q.l
 mf:MfAt w B q.m q.v1 q.v2 q.v3 q.v4
 pn:bN w B q.vp q.pins
 ll:q.l.length<=n
 pi:∀p∈q.l,qZ n p
 mi:zP n q.m
 pl:3*q.pins.length<=n
theorem open_problem{H:Type}{enc:TypeId×Value->H}{W:World}{base:Nat}{v:Value}{d:DataW H}{p:List MemPlace}
 (hv:Value.okWide Tryz.prog W .any base 30 v)(h:DataW.Trod enc Tryz.prog W 0 (fun _=>true) true 30 v d p):
 ∃q:Prob,v=q.val/\ProbAt W W.heap.size (Rows.uptoBulk d) q:=by
 obtain⟨fuel,hf0⟩:=h;obtain⟨cs,rfl,hcs⟩:=okWide_struct Lb hv;obtain⟨xs,n,hx,hl,hlen,hf⟩:=bP Lb Td hf0;obtain⟨cl⟩:=cs;have e:(Value.agg ⟨cl⟩).cells.toList=cl:=rfl;rw[e]at hf hl;rw[Tp]at hl;obtain⟨c0,c1,c2,c3,c4,c5,c6,c7,c8,c9,c10,rfl⟩:=Sl hl;obtain⟨y0,y1,y2,y3,y4,rfl⟩:=Re hlen;have k0:=hf 0 _ _ rfl;rw[Qt]at k0;have k1:=hf 1 _ _ rfl;rw[Rm]at k1;have k2:=hf 2 _ _ rfl;rw[Tq]at k2;have k3:=hf 3 _ _ rfl;rw[Nu]at k3;have k4:=hf 4 _ _ rfl;rw[Rn]at k4;simp only[List.drop_zero,List.drop_succ_cons,List.take_succ_cons,List.take_zero,gZ,List.getElem?_cons_succ]at k0 k1 k2 k3 k4;obtain⟨d0,p0⟩:=y0;obtain⟨d3,p3⟩:=y3;obtain⟨l,a0,b0,b1⟩:=Lu k0;obtain⟨m,u1,u2,u3,u4,e1,a1,b2⟩:=Pp k1;obtain⟨dv,e2,_⟩:=DataW.trod_bool Tryz.underlying4 k2;obtain⟨ps,a3,b3,b4⟩:=xK k3
 obtain⟨l1,l2,l3,l4,e4⟩:=Ai k4;simp only[List.cons.injEq,and_true]at e1 e2 e4;obtain⟨rfl,rfl,rfl,rfl⟩:=e1;obtain⟨rfl,rfl,rfl,rfl⟩:=e4;subst e2;have hd:d=.agg [d0,y1.1,y2.1,d3,y4.1]:=hx;rw[hd];simp only[Rows.uptoBulk,Rows.uptoBulkAll];exact⟨⟨l,m,ps,dv,c0,c1,c2,c3,c4,c6,l1,l2,l3,l4⟩,rfl,⟨a0,a1,a3,by show l.length<=_;omega,fun p hp=>(b1 p hp).mono (by omega),b2.mono (by omega),by show 3*ps.length<=_;omega⟩⟩
theorem open_limits{H:Type}{enc:TypeId×Value->H}{W:World}{base:Nat}{v:Value}{d:DataW H}{p:List MemPlace}
 (hv:Value.okWide Tryz.prog W .any base 28 v)(h:DataW.Trod enc Tryz.prog W 0 (fun _=>true) true 28 v d p):
 ∃q:Int×Int×Int×Int,v=.agg #[.int .i64 q.1,.int .i64 q.2.1,.int .i64 q.2.2.1,.int .i64 q.2.2.2]/\True:=by
 obtain⟨fuel,hf0⟩:=h;obtain⟨cs,rfl,hcs⟩:=okWide_struct Qz hv;obtain⟨l1,l2,l3,l4,e⟩:=Ai hf0;obtain⟨cl⟩:=cs;have e':cl=_:=e;subst e';exact⟨(l1,l2,l3,l4),rfl,trivial⟩
end Opp
end
section
open Top
namespace Top
theorem LsOk.sz{l:List Dp}(h:LsOk l):jK l:=⟨by have:=h.len;omega,fun d hd=>by have:=(h.at_ d hd).2.2.2;omega⟩
theorem Df{w:World}{B b:Nat}{v1 v2 v3:Value}{x y z:List Dp}{t:TypeId}{fr:Nat×Nat}(h1:DpsAt w B v1 x)(h2:DpsAt w B v2 y)(h3:DpsAt w B v3 z)(hb:b<B)(hc:w.heap[b]? =some (.cells #[v1,v2,v3] t fr)):MustAt w B (.slice (some ⟨b,0,none⟩) 3 3) [x,y,z]:=by
 have hcell:=Go.Lib.cell_of_heap hc;refine⟨[v1,v2,v3],rfl,⟨_,3,rfl,nL,fun i u hu=>?_⟩,fun i l' u hl hu=>?_⟩
 ·refine⟨b,0,rfl,hb,fun j q hj=>?_⟩;rw[hcell]
  match i,hu with
  | 0,hu=>
   simp only[List.map_cons,List.map_nil,gZ,iS]at hu;subst hu
   match j,hj with
   | 0,hj=>exact hj
  | 1,hu=>
   simp only[List.map_cons,List.map_nil,gZ,List.getElem?_cons_succ,iS]at hu;subst hu
   match j,hj with
   | 0,hj=>exact hj
  | 2,hu=>
   simp only[List.map_cons,List.map_nil,gZ,List.getElem?_cons_succ,iS]at hu;subst hu
   match j,hj with
   | 0,hj=>exact hj
 ·match i,hl,hu with
  | 0,hl,hu=>cases hl;cases hu;exact h1
  | 1,hl,hu=>cases hl;cases hu;exact h2
  | 2,hl,hu=>cases hl;cases hu;exact h3
end Top
theorem Hu(w:World)(p:Pk)(d1 d2 d3:Value)(hpw:VL.bS w)(h:PkAt w w.heap.size p d1 d2 d3)(hz:qZ 1048576 p):
 Calls Tryz.prog 27 #[iU p d1 d2 d3] w fun e w'=>e=.returned (.bool (bJ p))/\Below w.heap.size w w':=by
 obtain⟨hin,hi1,hi2,hi3⟩:=hz;obtain⟨a1,c1,e1⟩:=h.deps.form;obtain⟨a2,c2,e2⟩:=h.peers.form;obtain⟨a3,c3,e3⟩:=h.opts.form;obtain⟨n1,hn1⟩:∃n,n=p.deps.length:=⟨_,rfl⟩;obtain⟨n2,hn2⟩:∃n,n=p.peers.length:=⟨_,rfl⟩;obtain⟨n3,hn3⟩:∃n,n=p.opts.length:=⟨_,rfl⟩;rw[<-hn1]at e1;rw[<-hn2]at e2;rw[<-hn3]at e3;subst e1 e2 e3;obtain⟨nm,hnm⟩:∃t,t=p.name:=⟨_,rfl⟩;obtain⟨va,hva⟩:∃t,t=p.v.a:=⟨_,rfl⟩;obtain⟨vb,hvb⟩:∃t,t=p.v.b:=⟨_,rfl⟩;obtain⟨vc,hvc⟩:∃t,t=p.v.c:=⟨_,rfl⟩;obtain⟨b0,hb0⟩:∃b,b=Scan.dG p.name:=⟨_,rfl⟩;obtain⟨b1,hb1⟩:∃b,b=p.v.may:=⟨_,rfl⟩;obtain⟨b2,hb2⟩:∃b,b=bU p.deps:=⟨_,rfl⟩;obtain⟨b3,hb3⟩:∃b,b=bU p.peers:=⟨_,rfl⟩;obtain⟨b4,hb4⟩:∃b,b=bU p.opts:=⟨_,rfl⟩;have hns:(bs nm).size<=9223372036854775807:=by rw[eT,hnm];omega
 have HH:=Hd h;have HLS1:Hid (b2=true->LsOk p.deps):=Hd (fun e=>eH (by rw[<-hb2];exact e));have HLS2:Hid (b3=true->LsOk p.peers):=Hd (fun e=>eH (by rw[<-hb3];exact e));have HLS3:Hid (b4=true->LsOk p.opts):=Hd (fun e=>eH (by rw[<-hb4];exact e));have HNL:Hid (b0=true->p.name.length<=16):=Hd (fun e=>(jH (by rw[<-hb0];exact e)).2);obtain⟨T,hT⟩:∃t,t=sM p:=⟨_,rfl⟩;have HPW:Hid (∀W,Below w.heap.size w W->VL.bS W):=Hd (fun W hW=>hpw.below hW nL);have HN:Hid (∀W,Calls Tryz.prog 55 #[.string (bs nm)] W fun e w'=>e=.returned (.bool b0)/\Below W.heap.size W w'):=Hd (fun W=>by
  rw[hb0,<-hnm];exact vD (bs nm) hns W)
 have HV:Hid (∀W,Calls Tryz.prog 56 #[.agg #[.int .i64 va,.int .i64 vb,.int .i64 vc]] W fun e w'=>e=.returned (.bool b1)/\Below W.heap.size W w'):=Hd (fun W=>by
  rw[hb1,hva,hvb,hvc];exact VL.nR p.v.a p.v.b p.v.c W)
 have HL1:Hid (∀W,Below w.heap.size w W->Calls Tryz.prog 57 #[.slice a1 n1 c1] W fun e w'=>e=.returned (.bool b2)/\Below W.heap.size W w'):=Hd (fun W hW=>by
  rw[hb2];exact rW W _ p.deps ((h.deps.below hW nL).mono hW.size) (fun d hd=>⟨by have:=(hi1.2 d hd).1;omega,by have:=(hi1.2 d hd).2;omega⟩) (by have:=hi1.1;omega))
 have HL2:Hid (∀W,Below w.heap.size w W->Calls Tryz.prog 57 #[.slice a2 n2 c2] W fun e w'=>e=.returned (.bool b3)/\Below W.heap.size W w'):=Hd (fun W hW=>by
  rw[hb3];exact rW W _ p.peers ((h.peers.below hW nL).mono hW.size) (fun d hd=>⟨by have:=(hi2.2 d hd).1;omega,by have:=(hi2.2 d hd).2;omega⟩) (by have:=hi2.1;omega))
 have HL3:Hid (∀W,Below w.heap.size w W->Calls Tryz.prog 57 #[.slice a3 n3 c3] W fun e w'=>e=.returned (.bool b4)/\Below W.heap.size W w'):=Hd (fun W hW=>by
  rw[hb4];exact rW W _ p.opts ((h.opts.below hW nL).mono hW.size) (fun d hd=>⟨by have:=(hi3.2 d hd).1;omega,by have:=(hi3.2 d hd).2;omega⟩) (by have:=hi3.1;omega))
 clear hpw;unfold iU sv;rw[<-hnm,<-hva,<-hvb,<-hvc];obtain⟨wb,hwb⟩:∃y,y=w.alloc (.cells #[.string (bs nm),.int .i64 va,.int .i64 vb,.int .i64 vc,.slice a1 n1 c1,.slice a2 n2 c2,.slice a3 n3 c3] 52):=⟨_,rfl⟩;have hbb:Below w.heap.size w wb:=by rw[hwb];exact(bR _ _).alloc nL _
 have hzb:wb.heap.size=w.heap.size+1:=by rw[hwb];exact Array.size_push ..
 have HCELL:Hid (∀W,Below wb.heap.size wb W->W.cell? ⟨w.heap.size,0,none⟩=some (.string (bs nm))/\W.cell? ⟨w.heap.size,1,none⟩=some (.int .i64 va)/\W.cell? ⟨w.heap.size,2,none⟩=some (.int .i64 vb)/\W.cell? ⟨w.heap.size,3,none⟩=some (.int .i64 vc)/\W.cell? ⟨w.heap.size,4,none⟩=some (.slice a1 n1 c1)/\W.cell? ⟨w.heap.size,5,none⟩=some (.slice a2 n2 c2)/\W.cell? ⟨w.heap.size,6,none⟩=some (.slice a3 n3 c3)):=Hd (fun W hW=>by
  have h1:W.heap[w.heap.size]? =some (.cells #[.string (bs nm),.int .i64 va,.int .i64 vb,.int .i64 vc,.slice a1 n1 c1,.slice a2 n2 c2,.slice a3 n3 c3] 52 (0,0)):=by rw[hW.block _ (by omega),hwb];exact heap_alloc_new w _
  refine⟨?_,?_,?_,?_,?_,?_,?_⟩<;>(unfold World.cell?;rw[h1];rfl))
 have HWB:=Hd hwb;have HBB:=Hd hbb;have K0:=Hd (HCELL.out wb (bR _ _));clear hwb;have HX0:Hid (Below wb.heap.size wb wb):=Hd (bR _ _);obtain⟨q0,q1,q2,q3,q4,q5,q6⟩:=K0.out;have HB0:=Hd hb0;have HB1:=Hd hb1;have HB2:=Hd hb2;have HB3:=Hd hb3;have HB4:=Hd hb4;have HT:=Hd hT;have HNMV:=Hd (And.intro hnm (And.intro hva (And.intro hvb hvc)));clear h hzb hbb hi1 hi2 hi3 hin hb0 hb1 hb2 hb3 hb4 hT hn1 hn2 hn3 hnm hva hvb hvc;go_enter Tryz.func27,Tryz.ntmps27;go_upto_region 1 with fail;rw[<-HWB.out];go_wp2_with fail;refine(HN.out _).mono ?_;rintro e w1 ⟨rfl,hb9⟩;have HXw1:Hid (Below wb.heap.size wb w1):=Hd ((HX0.out).trans (hb9.mono (HX0.out).size));clear hb9 q0 q1 q2 q3 q4 q5 q6;obtain⟨q0,q1,q2,q3,q4,q5,q6⟩:=HCELL.out w1 HXw1.out;cases b0
 ·have HOK:Hid (bJ p=false):=Hd (by unfold bJ;rw[<-HB0.out];(try simp only[Bool.true_and,Bool.false_and,Bool.and_true,Bool.and_false]));go_wp2;go_returns;exact⟨by rw[HOK.out];rfl,HBB.out.trans ((HXw1.out).mono HBB.out.size)⟩
 go_wp2_with fail;refine(HV.out _).mono ?_;rintro e w2 ⟨rfl,hb9⟩;have HXw2:Hid (Below wb.heap.size wb w2):=Hd ((HXw1.out).trans (hb9.mono (HXw1.out).size));clear hb9 q0 q1 q2 q3 q4 q5 q6;obtain⟨q0,q1,q2,q3,q4,q5,q6⟩:=HCELL.out w2 HXw2.out;cases b1
 ·have HOK:Hid (bJ p=false):=Hd (by unfold bJ;rw[<-HB0.out,<-HB1.out];(try simp only[Bool.true_and,Bool.false_and,Bool.and_true,Bool.and_false]));go_wp2;go_returns;exact⟨by rw[HOK.out];rfl,HBB.out.trans ((HXw2.out).mono HBB.out.size)⟩
 go_wp2_with fail;refine(HL1.out _ (HBB.out.trans ((HXw2.out).mono HBB.out.size))).mono ?_;rintro e w3 ⟨rfl,hb9⟩;have HXw3:Hid (Below wb.heap.size wb w3):=Hd ((HXw2.out).trans (hb9.mono (HXw2.out).size));clear hb9 q0 q1 q2 q3 q4 q5 q6;obtain⟨q0,q1,q2,q3,q4,q5,q6⟩:=HCELL.out w3 HXw3.out;cases b2
 ·have HOK:Hid (bJ p=false):=Hd (by unfold bJ;rw[<-HB0.out,<-HB1.out,<-HB2.out];(try simp only[Bool.true_and,Bool.false_and,Bool.and_true,Bool.and_false]));go_wp2;go_returns;exact⟨by rw[HOK.out];rfl,HBB.out.trans ((HXw3.out).mono HBB.out.size)⟩
 go_wp2_with fail;refine(HL2.out _ (HBB.out.trans ((HXw3.out).mono HBB.out.size))).mono ?_;rintro e w4 ⟨rfl,hb9⟩;have HXw4:Hid (Below wb.heap.size wb w4):=Hd ((HXw3.out).trans (hb9.mono (HXw3.out).size));clear hb9 q0 q1 q2 q3 q4 q5 q6;obtain⟨q0,q1,q2,q3,q4,q5,q6⟩:=HCELL.out w4 HXw4.out;cases b3
 ·have HOK:Hid (bJ p=false):=Hd (by unfold bJ;rw[<-HB0.out,<-HB1.out,<-HB2.out,<-HB3.out];(try simp only[Bool.true_and,Bool.false_and,Bool.and_true,Bool.and_false]));go_wp2;go_returns;exact⟨by rw[HOK.out];rfl,HBB.out.trans ((HXw4.out).mono HBB.out.size)⟩
 go_wp2_with fail;refine(HL3.out _ (HBB.out.trans ((HXw4.out).mono HBB.out.size))).mono ?_;rintro e w5 ⟨rfl,hb9⟩;have HXw5:Hid (Below wb.heap.size wb w5):=Hd ((HXw4.out).trans (hb9.mono (HXw4.out).size));clear hb9 q0 q1 q2 q3 q4 q5 q6;obtain⟨q0,q1,q2,q3,q4,q5,q6⟩:=HCELL.out w5 HXw5.out;cases b4
 ·have HOK:Hid (bJ p=false):=Hd (by unfold bJ;rw[<-HB0.out,<-HB1.out,<-HB2.out,<-HB3.out,<-HB4.out];(try simp only[Bool.true_and,Bool.false_and,Bool.and_true,Bool.and_false]));go_wp2;go_returns;exact⟨by rw[HOK.out];rfl,HBB.out.trans ((HXw5.out).mono HBB.out.size)⟩
 have hs1:=HLS1.out (by simp);have hs2:=HLS2.out (by simp);have hs3:=HLS3.out (by simp);obtain⟨b5,hb5⟩:∃b,b=jJ [p.deps,p.peers,p.opts]:=⟨_,rfl⟩;have HB5:=Hd hb5;clear hb5;have HAP:Hid (∀W,Below w.heap.size w W->Calls Tryz.prog 58 #[.slice (some ⟨W.heap.size,0,none⟩) 3 3] (W.alloc (.cells #[.slice a1 n1 c1,.slice a2 n2 c2,.slice a3 n3 c3] 23)) fun e w'=>e=.returned (.bool b5)/\Below (W.alloc (.cells #[.slice a1 n1 c1,.slice a2 n2 c2,.slice a3 n3 c3] 23)).heap.size (W.alloc (.cells #[.slice a1 n1 c1,.slice a2 n2 c2,.slice a3 n3 c3] 23)) w'):=Hd (fun W hW=>by
  rw[HB5.out];have hW2:=hW.alloc hW.size (.cells #[.slice a1 n1 c1,.slice a2 n2 c2,.slice a3 n3 c3] 23);refine Ke _ _ [p.deps,p.peers,p.opts] (Df ((HH.out.deps.below hW2 nL).mono hW2.size) ((HH.out.peers.below hW2 nL).mono hW2.size) ((HH.out.opts.below hW2 nL).mono hW2.size) (by simp) (heap_alloc_new W _)) (by simp) (fun l hl=>?_) (fun l hl d hd=>?_)
  ·simp only[List.mem_cons,List.not_mem_nil,or_false]at hl;rcases hl with rfl | rfl | rfl
   ·exact hs1.sz
   ·exact hs2.sz
   ·exact hs3.sz
  ·simp only[List.mem_cons,List.not_mem_nil,or_false]at hl;have hml:16<=maxLen:=by decide
   rcases hl with rfl | rfl | rfl
   ·have:=(hs1.at_ d hd).2.1;omega
   ·have:=(hs2.at_ d hd).2.1;omega
   ·have:=(hs3.at_ d hd).2.1;omega)
 have HTX:Hid (∀W,Below w.heap.size w W->Calls Tryz.prog 59 #[.agg #[.string (bs nm),.int .i64 va,.int .i64 vb,.int .i64 vc,.slice a1 n1 c1,.slice a2 n2 c2,.slice a3 n3 c3]] W fun e w'=>e=.returned (.string (bs T))/\Below W.heap.size W w'):=Hd (fun W hW=>by
  rw[HT.out];have:=Kv W p _ _ _ (HPW.out W hW) ((HH.out.below hW nL).mono hW.size) (HNL.out (by simp)) ⟨hs1,hs2,hs3⟩;unfold iU sv at this;rw[<-HNMV.out.1,<-HNMV.out.2.1,<-HNMV.out.2.2.1,<-HNMV.out.2.2.2]at this;exact this)
 clear hs1 hs2 hs3;go_wp2_with fail;refine(HAP.out w5 (HBB.out.trans ((HXw5.out).mono HBB.out.size))).mono ?_;rintro e w6 ⟨rfl,hb9⟩;have HXw6:Hid (Below wb.heap.size wb w6):=Hd (((HXw5.out.alloc HXw5.out.size _)).trans (hb9.mono ((HXw5.out.alloc HXw5.out.size _)).size));clear hb9 q0 q1 q2 q3 q4 q5 q6;obtain⟨q0,q1,q2,q3,q4,q5,q6⟩:=HCELL.out w6 HXw6.out;cases b5
 ·have HOK:Hid (bJ p=false):=Hd (by unfold bJ;rw[<-HB0.out,<-HB1.out,<-HB2.out,<-HB3.out,<-HB4.out,<-HB5.out];(try simp only[Bool.true_and,Bool.false_and,Bool.and_true,Bool.and_false]));go_wp2;go_returns;exact⟨by rw[HOK.out];rfl,HBB.out.trans ((HXw6.out).mono HBB.out.size)⟩
 go_wp2_with fail;refine(HTX.out _ (HBB.out.trans ((HXw6.out).mono HBB.out.size))).mono ?_;rintro e w7 ⟨rfl,hb9⟩;have HXw7:Hid (Below wb.heap.size wb w7):=Hd ((HXw6.out).trans (hb9.mono (HXw6.out).size));clear hb9 q0 q1 q2 q3 q4 q5 q6;obtain⟨q0,q1,q2,q3,q4,q5,q6⟩:=HCELL.out w7 HXw7.out;have HOK:Hid (bJ p=decide (T.length<=4096)):=Hd (by unfold bJ;rw[<-HB0.out,<-HB1.out,<-HB2.out,<-HB3.out,<-HB4.out,<-HB5.out,<-HT.out];(try simp only[Bool.true_and,Bool.false_and,Bool.and_true,Bool.and_false]));go_wp2;go_returns;exact⟨by rw[HOK.out,eT];(try simp only[Nat.cast_le]);(try congr 2);(try simp);(try omega),HBB.out.trans ((HXw7.out).mono HBB.out.size)⟩
end
section
open Top
/-- Whatever it answers. -/
theorem Kg(w:World)(xn yn:List UInt8)(xa xb xc ya yb yc:Int)(u1 u2 u3 v1 v2 v3:Value)(hx:xn.length<=1048576)(hy:yn.length<=1048576):
 Calls Tryz.prog 31 #[.agg #[.string (bs xn),.int .i64 xa,.int .i64 xb,.int .i64 xc,u1,u2,u3],.agg #[.string (bs yn),.int .i64 ya,.int .i64 yb,.int .i64 yc,v1,v2,v3]] w fun e w'=>(∃b:Bool,e=.returned (.bool b))/\Below w.heap.size w w':=by
 obtain⟨wa,hwa⟩:=ex ((w.alloc (.cells #[.string (bs xn),.int .i64 xa,.int .i64 xb,.int .i64 xc,u1,u2,u3] 52)).alloc (.cells #[.string (bs yn),.int .i64 ya,.int .i64 yb,.int .i64 yc,v1,v2,v3] 52));have hba:Below w.heap.size w wa:=by rw[hwa];exact((bR _ _).alloc nL _).alloc (by simp) _
 have e0:wa.heap[w.heap.size]? =some (.cells #[.string (bs xn),.int .i64 xa,.int .i64 xb,.int .i64 xc,u1,u2,u3] 52 (0,0)):=by
  rw[hwa];refine(heap_alloc_old _ _ (by simp)).trans (heap_alloc_new w _)
 have e1:wa.heap[w.heap.size+1]? =some (.cells #[.string (bs yn),.int .i64 ya,.int .i64 yb,.int .i64 yc,v1,v2,v3] 52 (0,0)):=by
  rw[hwa];have:=heap_alloc_new (w.alloc (.cells #[.string (bs xn),.int .i64 xa,.int .i64 xb,.int .i64 xc,u1,u2,u3] 52)) (.cells #[.string (bs yn),.int .i64 ya,.int .i64 yb,.int .i64 yc,v1,v2,v3] 52);rw[sA]at this;exact this
 have c0:=Go.Lib.cell_of_heap e0;have c1:=Go.Lib.cell_of_heap e1;have x0:=c0 0;have x1:=c0 1;have x2:=c0 2;have x3:=c0 3;have y0:=c1 0;have y1:=c1 1;have y2:=c1 2;have y3:=c1 3;simp only[List.getElem?_toArray,gZ,List.getElem?_cons_succ]at x0 x1 x2 x3 y0 y1 y2 y3;have HWA:=Hd hwa;have HBA:=Hd hba;have HLS:Hid (∀W,Calls Tryz.prog 66 #[.string (bs xn),.string (bs yn)] W fun e w'=>(∃b:Bool,e=.returned (.bool b))/\Below W.heap.size W w'):=Hd (fun W=>by
  refine(Hl (bs xn) (bs yn) (by rw[eT];omega) (by rw[eT];omega) W).mono ?_;rintro e w' ⟨rfl,m,rfl⟩;exact⟨⟨_,rfl⟩,VL.below_drewN (bR _ _) m⟩)
 have HCM:Hid (∀W,Calls Tryz.prog 67 #[.agg #[.int .i64 xa,.int .i64 xb,.int .i64 xc],.agg #[.int .i64 ya,.int .i64 yb,.int .i64 yc]] W fun e w'=>(∃b:Int,e=.returned (.int .i64 b))/\Below W.heap.size W w'):=Hd (fun W=>by
  refine(VL.yV xa xb xc ya yb yc W).mono ?_;rintro e w' ⟨rfl,h⟩;exact⟨⟨_,rfl⟩,h⟩)
 clear hwa hba e0 e1 c0 c1;cases hq:decide (xn=yn)
 ·have hbe:((bs xn).toList==(bs yn).toList)=false:=by rw[aA,aA];simpa using hq
  have hbe2:¬(bs xn).toList=(bs yn).toList:=by rw[aA,aA];simpa using hq
  clear hq;go_enter Tryz.func31,Tryz.ntmps31;go_upto_region 1 with fail;rw[<-HWA.out];go_wp2_with fail;refine(HLS.out _).mono ?_;rintro e w1 ⟨⟨b,rfl⟩,hb1⟩;go_wp2;go_returns;exact⟨⟨b,rfl⟩,HBA.out.trans (hb1.mono HBA.out.size)⟩
 ·have hbe:((bs xn).toList==(bs yn).toList)=true:=by rw[aA,aA];simpa using hq
  have hbe2:(bs xn).toList=(bs yn).toList:=by rw[aA,aA];simpa using hq
  clear hq;go_enter Tryz.func31,Tryz.ntmps31;go_upto_region 1 with fail;rw[<-HWA.out];go_wp2_with fail;refine(HCM.out _).mono ?_;rintro e w1 ⟨⟨b,rfl⟩,hb1⟩;go_wp2;go_returns;exact⟨⟨_,rfl⟩,HBA.out.trans (hb1.mono HBA.out.size)⟩
theorem Ld(w:World)(r:Nat)(v:Value)(D:List Pk)(hr:w.heap[r]? =some (.cells #[v] 47 (0,0)))(hrow:RfRow w w.heap.size v D)(hD:D.length<=1000000)(nm:List UInt8)(va vv vc:Int):
 Calls Tryz.prog 30 #[.pointer (some ⟨r,0,none⟩),.string (bs nm),.agg #[.int .i64 va,.int .i64 vv,.int .i64 vc]] w fun e w'=>(∃(zn:ByteArray) (za zb zc:Int) (z1:Option Addr) (m1 c1:Nat) (z2:Option Addr) (m2 c2:Nat) (z3:Option Addr) (m3 c3:Nat),e=.returned (.tuple #[.agg #[.string zn,.int .i64 za,.int .i64 zb,.int .i64 zc,.slice z1 m1 c1,.slice z2 m2 c2,.slice z3 m3 c3],.bool (bA D nm ⟨va,vv,vc⟩)]))/\Below w.heap.size w w':=by
 obtain⟨a0,c0,hv⟩:=hrow.form;obtain⟨N,hN⟩:=ex (D.length);rw[<-hN]at hv hD;subst hv;have hrl:r<w.heap.size:=(Array.getElem?_eq_some_iff.1 hr).1;obtain⟨vb,hvb⟩:=ex (w.heap.size);obtain⟨ws,hws⟩:=ex ((w.alloc (.cells #[.int .i64 va,.int .i64 vv,.int .i64 vc] 50)).alloc (.cells #[.string ⟨#[]⟩,.int .i64 0,.int .i64 0,.int .i64 0,.slice none 0 0,.slice none 0 0,.slice none 0 0] 52));have hbs:Below w.heap.size w ws:=by rw[hws];exact((bR _ _).alloc nL _).alloc (by simp) _
 have e0:ws.heap[vb]? =some (.cells #[.int .i64 va,.int .i64 vv,.int .i64 vc] 50 (0,0)):=by
  rw[hws,hvb];refine(heap_alloc_old _ _ (by simp)).trans (heap_alloc_new w _)
 have e1:ws.heap[vb+1]? =some (.cells #[.string ⟨#[]⟩,.int .i64 0,.int .i64 0,.int .i64 0,.slice none 0 0,.slice none 0 0,.slice none 0 0] 52 (0,0)):=by
  rw[hws,hvb];have:=heap_alloc_new (w.alloc (.cells #[.int .i64 va,.int .i64 vv,.int .i64 vc] 50)) (.cells #[.string ⟨#[]⟩,.int .i64 0,.int .i64 0,.int .i64 0,.slice none 0 0,.slice none 0 0,.slice none 0 0] 52);rw[sA]at this;exact this
 have hss:ws.heap.size=vb+2:=by rw[hws,hvb];simp
 have HNB:Hid (∀W,Below ws.heap.size ws W->W.heap[vb+1]? =some (.cells #[.string ⟨#[]⟩,.int .i64 0,.int .i64 0,.int .i64 0,.slice none 0 0,.slice none 0 0,.slice none 0 0] 52 (0,0))):=Hd (fun W hW=>(hW.block _ (by omega)).trans e1);have HVB:Hid (∀W,Below ws.heap.size ws W->W.cell? ⟨vb,0,none⟩=some (.int .i64 va)/\W.cell? ⟨vb,1,none⟩=some (.int .i64 vv)/\W.cell? ⟨vb,2,none⟩=some (.int .i64 vc)):=Hd (fun W hW=>by
  have h1:=(hW.block vb (by omega)).trans e0;refine⟨?_,?_,?_⟩<;>(unfold World.cell?;rw[h1];rfl))
 have HR0:Hid (∀W,Below ws.heap.size ws W->W.cell? ⟨r,0,none⟩=some (.slice a0 N c0)):=Hd (fun W hW=>by
  have h1:W.heap[r]? =_:=((hW.block r (by omega)).trans (hbs.block r hrl)).trans hr;unfold World.cell?;rw[h1];rfl)
 have HUP:Hid (∀W,Below ws.heap.size ws W->Below w.heap.size w W):=Hd (fun W hW=>hbs.trans (hW.mono hbs.size));have HROW:=Hd hrow;have HN:=Hd hN;have HWS:=Hd hws;have HVBE:=Hd hvb;have HSS:=Hd hss;have HNO:Hid ((∀(j:Nat) q,D[j]? =some q->q.key≠(nm,⟨va,vv,vc⟩))->bA D nm ⟨va,vv,vc⟩=false):=Hd (fun h=>by
  cases hh:bA D nm ⟨va,vv,vc⟩
  ·rfl
  ·obtain⟨p,hp,e⟩:=mO.1 hh;obtain⟨j,hj,rfl⟩:=eI.1 hp;exact absurd e (h j _ (gE hj)))
 clear hr hrow hN hws hvb hbs e0 e1 hss hrl;go_enter Tryz.func30,Tryz.ntmps30;go_upto_region 2 with fail;rw[<-HWS.out,<-HVBE.out];go_loopw [8] (fun p wr=>∃k:Nat,p=.int .i64 k/\k<=N/\(∀(j:Nat) q,j<k->D[j]? =some q->q.key≠(nm,⟨va,vv,vc⟩))/\Below ws.heap.size ws wr) (fun p _=>N-(intOf p).toNat);case atStart=>exact⟨0,rfl,by omega,fun j q hj=>absurd hj (by omega),bR _ _⟩
 case round=>
  obtain⟨wo,rfl⟩:∃x,x=wr:=⟨wr,rfl⟩;obtain⟨k,rfl,hk,hno,hb⟩:=hrel;have HBO:=Hd hb;have HALL:=Hd hno;have hr0:=HR0.out wo hb;clear hno;by_cases hkN:k<N
  ·obtain⟨q,hq⟩:∃x,D[k]? =some x:=⟨_,gE (by have:=HN.out;omega)⟩;obtain⟨bk,o,cap,hve,hcap,hbk,hat⟩:=HROW.out.at (by have:=HN.out;omega);rw[<-HN.out]at hve;cases hve;obtain⟨_,⟨d1,m1,t1,d2,m2,t2,d3,m3,t3,rfl⟩,hu⟩:=hat k q hq;obtain⟨qn,hqn⟩:=ex (q.name);obtain⟨qa,hqa⟩:=ex (q.v.a);obtain⟨qb,hqb⟩:=ex (q.v.b);obtain⟨qc,hqc⟩:=ex (q.v.c);have HSC:Hid (∀W,Below ws.heap.size ws W->W.cell? ⟨r,0,none⟩=some (.slice (some ⟨bk,o,none⟩) N c0)/\W.cell? ⟨bk,o+k*7,none⟩=some (.string (bs qn))/\W.cell? ⟨bk,o+k*7+1,none⟩=some (.int .i64 qa)/\W.cell? ⟨bk,o+k*7+2,none⟩=some (.int .i64 qb)/\W.cell? ⟨bk,o+k*7+3,none⟩=some (.int .i64 qc)/\W.cell? ⟨bk,o+k*7+4,none⟩=some (.slice d1 m1 t1)/\W.cell? ⟨bk,o+k*7+5,none⟩=some (.slice d2 m2 t2)/\W.cell? ⟨bk,o+k*7+6,none⟩=some (.slice d3 m3 t3)/\W.cell? ⟨vb,0,none⟩=some (.int .i64 va)/\W.cell? ⟨vb,1,none⟩=some (.int .i64 vv)/\W.cell? ⟨vb,2,none⟩=some (.int .i64 vc)):=Hd (fun W hW=>by
    have up:∀j u,(aL q (.slice d1 m1 t1,(.slice d2 m2 t2,.slice d3 m3 t3)))[j]? =some u->W.cell? ⟨bk,o+k*7+j,none⟩=some u:=fun j u hj=>((HUP.out W hW).cell (p:=⟨bk,o+k*7+j,none⟩) hbk).trans (hu j u hj);obtain⟨j0,j1,j2⟩:=HVB.out W hW;rw[hqn,hqa,hqb,hqc];exact⟨HR0.out W hW,up 0 _ rfl,up 1 _ rfl,up 2 _ rfl,up 3 _ rfl,up 4 _ rfl,up 5 _ rfl,up 6 _ rfl,j0,j1,j2⟩)
   have HKY:Hid (q.key=(qn,⟨qa,qb,qc⟩)):=Hd (by rw[hqn,hqa,hqb,hqc];rfl);have HNX0:Hid (q.key≠(nm,⟨va,vv,vc⟩)->∀(j:Nat) q',j<k+1->D[j]? =some q'->q'.key≠(nm,⟨va,vv,vc⟩)):=Hd (fun h j q' hj hq'=>by
    rcases Nat.lt_or_ge j k with h' | h'
    ·exact HALL.out j q' h' hq'
    ·have ej:j=k:=by omega
     rw[ej]at hq';have ee:=hq.symm.trans hq';injection ee with ee
     rw[<-ee];exact h)
   have HYES:Hid (q.key=(nm,⟨va,vv,vc⟩)->bA D nm ⟨va,vv,vc⟩=true):=Hd (fun h=>mO.2 ⟨q,mG hq,h⟩);clear hq hat hu hcap hqn hqa hqb hqc;cases hn:decide (qn=nm)
   ·have hbe:((bs qn).toList==(bs nm).toList)=false:=by rw[aA,aA];simpa using hn
    have hbe2:¬(bs qn).toList=(bs nm).toList:=by rw[aA,aA];simpa using hn
    have HNX:=Hd (HNX0.out (by rw[HKY.out];intro e;injection e with e;exact absurd e (by simpa using hn)));clear hn;go_upto_region 4 with fail;refine rG (fun w'=>w'.cell? ⟨r,0,none⟩=some (.slice (some ⟨bk,o,none⟩) N c0)/\w'.cell? ⟨bk,o+k*7,none⟩=some (.string (bs qn))/\w'.cell? ⟨bk,o+k*7+1,none⟩=some (.int .i64 qa)/\w'.cell? ⟨bk,o+k*7+2,none⟩=some (.int .i64 qb)/\w'.cell? ⟨bk,o+k*7+3,none⟩=some (.int .i64 qc)/\w'.cell? ⟨bk,o+k*7+4,none⟩=some (.slice d1 m1 t1)/\w'.cell? ⟨bk,o+k*7+5,none⟩=some (.slice d2 m2 t2)/\w'.cell? ⟨bk,o+k*7+6,none⟩=some (.slice d3 m3 t3)/\w'.cell? ⟨vb,0,none⟩=some (.int .i64 va)/\w'.cell? ⟨vb,1,none⟩=some (.int .i64 vv)/\w'.cell? ⟨vb,2,none⟩=some (.int .i64 vc)) (HSC.out wo.drew HBO.out.drew) fun hU=>?_;refine aM [0,1,2,3,4,5,6,7,8,9,10] ?_;refine wN [11,12,13,14,15,16,17,18,19,20] ?_
    refine aM [21] ?_;refine dN ?_;go_wp2;go_roundw;case rel=>exact⟨k+1,by go_num,by omega,HNX.out,HBO.out.drew⟩
    case measure=>simp[intOf];omega
   ·have hbe:((bs qn).toList==(bs nm).toList)=true:=by rw[aA,aA];simpa using hn
    have hbe2:(bs qn).toList=(bs nm).toList:=by rw[aA,aA];simpa using hn
    have HNE:Hid (qn=nm):=Hd (by simpa using hn);clear hn;cases hvs:VL.V.same qa qb qc va vv vc
    ·have HNX:=Hd (HNX0.out (by
      rw[HKY.out];intro e;injection e with _ e
      injection e with e1 e2 e3
      rw[e1,e2,e3]at hvs;simp[VL.V.same]at hvs))
     go_upto_region 4 with fail;refine rG (fun w'=>w'.cell? ⟨r,0,none⟩=some (.slice (some ⟨bk,o,none⟩) N c0)/\w'.cell? ⟨bk,o+k*7,none⟩=some (.string (bs qn))/\w'.cell? ⟨bk,o+k*7+1,none⟩=some (.int .i64 qa)/\w'.cell? ⟨bk,o+k*7+2,none⟩=some (.int .i64 qb)/\w'.cell? ⟨bk,o+k*7+3,none⟩=some (.int .i64 qc)/\w'.cell? ⟨bk,o+k*7+4,none⟩=some (.slice d1 m1 t1)/\w'.cell? ⟨bk,o+k*7+5,none⟩=some (.slice d2 m2 t2)/\w'.cell? ⟨bk,o+k*7+6,none⟩=some (.slice d3 m3 t3)/\w'.cell? ⟨vb,0,none⟩=some (.int .i64 va)/\w'.cell? ⟨vb,1,none⟩=some (.int .i64 vv)/\w'.cell? ⟨vb,2,none⟩=some (.int .i64 vc)) (HSC.out wo.drew HBO.out.drew) fun hU=>?_;refine aM [0,1,2,3,4,5,6,7,8,9,10,11,12,13,14,15,16,17,18,19,20,21] ?_;refine dN ?_;go_wp2;go_roundw;case rel=>exact⟨k+1,by go_num,by omega,HNX.out,HBO.out.drew⟩
     case measure=>simp[intOf];omega
    ·have HF:=Hd (HYES.out (by
      rw[HKY.out,HNE.out];obtain⟨rfl,rfl,rfl⟩:=nK.1 hvs;rfl))
     go_upto_region 4 with fail;refine rG (fun w'=>w'.cell? ⟨r,0,none⟩=some (.slice (some ⟨bk,o,none⟩) N c0)/\w'.cell? ⟨bk,o+k*7,none⟩=some (.string (bs qn))/\w'.cell? ⟨bk,o+k*7+1,none⟩=some (.int .i64 qa)/\w'.cell? ⟨bk,o+k*7+2,none⟩=some (.int .i64 qb)/\w'.cell? ⟨bk,o+k*7+3,none⟩=some (.int .i64 qc)/\w'.cell? ⟨bk,o+k*7+4,none⟩=some (.slice d1 m1 t1)/\w'.cell? ⟨bk,o+k*7+5,none⟩=some (.slice d2 m2 t2)/\w'.cell? ⟨bk,o+k*7+6,none⟩=some (.slice d3 m3 t3)/\w'.cell? ⟨vb,0,none⟩=some (.int .i64 va)/\w'.cell? ⟨vb,1,none⟩=some (.int .i64 vv)/\w'.cell? ⟨vb,2,none⟩=some (.int .i64 vc)) (HSC.out wo.drew HBO.out.drew) fun hU=>?_;refine aM [0,1,2,3,4,5,6,7,8,9,10,11,12,13,14,15,16,17,18,19,20,21] ?_;refine dN ?_;obtain⟨wz,hwz⟩:=ex (wo.drew);rw[<-hwz];have HBZ:Hid (Below ws.heap.size ws wz):=Hd (by rw[hwz];exact HBO.out.drew)
     clear hwz hr0 hU;obtain⟨g0,g1,g2,g3,g4,g5,g6,g7,_⟩:=HSC.out wz HBZ.out;have hnb:=HNB.out wz HBZ.out;have e:=Go.Lib.cell_of_heap hnb;have r0:=e 0;have r1:=e 1;have r2:=e 2;have r3:=e 3;have r4:=e 4;have r5:=e 5;have r6:=e 6;simp only[List.getElem?_toArray,gZ,List.getElem?_cons_succ]at r0 r1 r2 r3 r4 r5 r6;have f0:=Go.Lib.frozen_of_heap hnb 0;have f1:=Go.Lib.frozen_of_heap hnb 1;have f2:=Go.Lib.frozen_of_heap hnb 2;have f3:=Go.Lib.frozen_of_heap hnb 3;have f4:=Go.Lib.frozen_of_heap hnb 4;have f5:=Go.Lib.frozen_of_heap hnb 5;have f6:=Go.Lib.frozen_of_heap hnb 6;clear e hnb;go_wp2;have hwy:=aV (vb+1) [.string (bs qn),.int .i64 qa,.int .i64 qb,.int .i64 qc,.slice d1 m1 t1,.slice d2 m2 t2,.slice d3 m3 t3] wz 0;have hy:=bK (vb+1) [.string (bs qn),.int .i64 qa,.int .i64 qb,.int .i64 qc,.slice d1 m1 t1,.slice d2 m2 t2,.slice d3 m3 t3] wz 0 (fun i hi=>by
      match i,hi with
      | 0,_=>exact⟨_,r0⟩
      | 1,_=>exact⟨_,r1⟩
      | 2,_=>exact⟨_,r2⟩
      | 3,_=>exact⟨_,r3⟩
      | 4,_=>exact⟨_,r4⟩
      | 5,_=>exact⟨_,r5⟩
      | 6,_=>exact⟨_,r6⟩)
     have s0:=hy 0 _ rfl;have s1:=hy 1 _ rfl;have s2:=hy 2 _ rfl;have s3:=hy 3 _ rfl;have s4:=hy 4 _ rfl;have s5:=hy 5 _ rfl;have s6:=hy 6 _ rfl;simp only[bI,Nat.zero_add,Nat.reduceAdd]at s0 s1 s2 s3 s4 s5 s6 hwy;(try simp only[Exit.inBlock,Exit.then]);refine bodyPost_ret (by simp[results,Tryz.results30,go_sem,s0,s1,s2,s3,s4,s5,s6];try rfl) rfl ?_;exact⟨⟨_,_,_,_,_,_,_,_,_,_,_,_,_,by rw[HF.out]⟩,(HUP.out _ HBZ.out).trans (hwy.mono (by have:=HVBE.out;omega))⟩
  ·have HF:=Hd (HNO.out fun j q hq=>HALL.out j q (by have:=(gS hq).1;have:=HN.out;omega) hq);have hnb:=HNB.out wo HBO.out;have e:=Go.Lib.cell_of_heap hnb;have r0:=e 0;have r1:=e 1;have r2:=e 2;have r3:=e 3;have r4:=e 4;have r5:=e 5;have r6:=e 6;simp only[List.getElem?_toArray,gZ,List.getElem?_cons_succ]at r0 r1 r2 r3 r4 r5 r6;have f0:=Go.Lib.frozen_of_heap hnb 0;have f1:=Go.Lib.frozen_of_heap hnb 1;have f2:=Go.Lib.frozen_of_heap hnb 2;have f3:=Go.Lib.frozen_of_heap hnb 3;have f4:=Go.Lib.frozen_of_heap hnb 4;have f5:=Go.Lib.frozen_of_heap hnb 5;have f6:=Go.Lib.frozen_of_heap hnb 6;clear e hnb;go_wp2;have hwy:=aV (vb+1) [.string ⟨#[]⟩,.int .i64 0,.int .i64 0,.int .i64 0,.slice none 0 0,.slice none 0 0,.slice none 0 0] wo 0;have hy:=bK (vb+1) [.string ⟨#[]⟩,.int .i64 0,.int .i64 0,.int .i64 0,.slice none 0 0,.slice none 0 0,.slice none 0 0] wo 0 (fun i hi=>by
    match i,hi with
    | 0,_=>exact⟨_,r0⟩
    | 1,_=>exact⟨_,r1⟩
    | 2,_=>exact⟨_,r2⟩
    | 3,_=>exact⟨_,r3⟩
    | 4,_=>exact⟨_,r4⟩
    | 5,_=>exact⟨_,r5⟩
    | 6,_=>exact⟨_,r6⟩)
   have s0:=hy 0 _ rfl;have s1:=hy 1 _ rfl;have s2:=hy 2 _ rfl;have s3:=hy 3 _ rfl;have s4:=hy 4 _ rfl;have s5:=hy 5 _ rfl;have s6:=hy 6 _ rfl;simp only[bI,Nat.zero_add,Nat.reduceAdd]at s0 s1 s2 s3 s4 s5 s6 hwy;(try simp only[Exit.inBlock,Exit.then]);refine bodyPost_ret (by simp[results,Tryz.results30,go_sem,s0,s1,s2,s3,s4,s5,s6];try rfl) rfl ?_;exact⟨⟨_,_,_,_,_,_,_,_,_,_,_,_,_,by rw[HF.out]⟩,(HUP.out _ HBO.out).trans (hwy.mono (by have:=HVBE.out;omega))⟩
end
section
namespace Top
structure Fit(P:Pb)(has:List UInt8->Ve->Bool)(most:Nat)(pt:Pt)(s:St):Prop where
 inv:Inv P has most s
 pt:nE P pt s
section
variable{P:Pb}{has:List UInt8->Ve->Bool}{most:Nat}{s:St}
theorem Fit.push(h:Fit P has most .next s){w:Wt}(hw:(s.wants P)[s.mine.length]? =some w):Fit P has most .try' (s.push P w):=by
 obtain⟨hI,hk,hf,hp⟩:=h;refine⟨hI.push hk hw,hk,fun i hi nd hnd=>?_,fun pre x hx=>?_⟩
 ·have hik:i<s.k:=hi;show(kS (s.stack++[aK P s.k s.cur.ctx w]) i).length=_;rw[dM,(bV P s.k s.cur.ctx w).1,if_neg (by omega),List.append_nil];exact hf i hik nd hnd
 ·obtain⟨rfl,rfl⟩:=cK hx;exact⟨(bV P s.k s.cur.ctx w).1,hp⟩
theorem Fit.bad(h:Fit P has most .next s):Fit P has most .back s:=by
 obtain⟨hI,hk,hf,hp⟩:=h;exact⟨hI,hk,fun y hy i hi=>hf i (by have:=hI.sk y hy;omega),hp⟩
theorem zM(nodes:List Nd)(es:List Eg):(s.bind nodes es).k=s.k+1:=by
 show(s.ahead++[s.nodes.length]).length=_;rw[lA,List.length_singleton];rfl
theorem Fit.on(F:P.Fits has)(h:Fit P has most .next s){nodes:List Nd}{es:List Eg}(hl:(s.wants P).length<=s.mine.length)(hb:dD P most s.cur.ctx s.mine s.nodes=.ok nodes es)(hkn:¬s.k+1=nodes.length):Fit P has most .next (s.bind nodes es):=by
 obtain⟨hI,hk,hf,hp⟩:=h;obtain⟨hI',hfull,hold⟩:=hI.bind F hk hl hp hb;have hlen:=(mY hb).1;have hk1:=zM (s:=s) nodes es;refine⟨hI',?_,fun i hi nd hnd=>?_,hp⟩
 ·rw[hk1];show s.k+1<nodes.length;omega
 ·rw[hk1]at hi;have hin:i<s.nodes.length:=by omega
  have hnd':nodes[i]? =some nd:=hnd;rw[hold i _ (gE hin)]at hnd';by_cases hik:i<s.k
  ·exact hf i hik nd (by rw[gE hin];exact hnd')
  ·have:i=s.k:=by omega
   subst this;exact hfull nd (by rw[gE hin];exact hnd')
theorem Fit.take(h:Fit P has most .try' s){pre:List Ch}{x:Ch}(hs:s.stack=pre++[x])(hx:x.pos<x.many):Fit P has most .next s:=by
 obtain⟨hI,hk,hf,hp⟩:=h;refine⟨hI,hk,hf,fun y hy=>?_⟩;rw[hs]at hy;rcases List.mem_append.1 hy with hy | hy
 ·exact(hp pre x hs).2 y hy
 ·simp only[mI]at hy;subst hy;exact hx
theorem Fit.pop(h:Fit P has most .try' s){pre:List Ch}{x:Ch}(hs:s.stack=pre++[x]):Fit P has most .back {s with stack:=pre}:=by
 obtain⟨hI,hk,hf,hp⟩:=h;obtain⟨p1,p2⟩:=hp pre x hs;refine⟨hI.pop hs,hk,fun y hy i hi nd hnd=>?_,p2⟩;have hyk:=hI.sk y (by rw[hs];exact List.mem_append_left _ hy);have:=hf i (by omega) nd hnd;rw[hs,dM,if_neg (by omega),List.append_nil]at this;exact this
theorem Fit.back(h:Fit P has most .back s){pre:List Ch}{x:Ch}(hs:s.stack=pre++[x]):Fit P has most .try' (s.again pre x):=⟨h.inv.again hs,nE.again h.inv h.pt hs⟩
theorem Fit.cur{pt:Pt}(h:Fit P has most pt s):s.nodes[s.k]? =some s.cur:=by
 unfold St.cur;rw[gE h.pt.1];rfl
theorem Gm{l:List Ch}{p:Ch->Bool}{x:Ch}(hx:p x=false):(l++[x]).takeWhile p=l.takeWhile p:=by
 induction l with
 | nil=>simp[hx]
 | cons y r ih=>
  rw[List.cons_append];by_cases hy:p y=true
  ·rw[List.takeWhile_cons_of_pos hy,List.takeWhile_cons_of_pos hy,ih]
  ·rw[List.takeWhile_cons_of_neg hy,List.takeWhile_cons_of_neg hy]
theorem Ct(w:Wt):(s.push P w).first=s.first:=by
 unfold St.first St.push;show(List.takeWhile (fun x=>x.node !=s.k) (s.stack++[aK P s.k s.cur.ctx w])).length=_;rw[Gm (by rw[(bV P s.k s.cur.ctx w).1];simp)]
theorem Fit.bind_first{pt:Pt}(h:Fit P has most pt s)(nodes:List Nd)(es:List Eg):(s.bind nodes es).first=s.stack.length:=by
 unfold St.first;rw[zM];show(List.takeWhile (fun x=>x.node !=s.k+1) s.stack).length=_;have:∀l:List Ch,(∀x∈l,x.node<=s.k)->l.takeWhile (fun x=>x.node !=s.k+1)=l:=by
  intro l;induction l with
  | nil=>intro _;rfl
  | cons y r ih=>
   intro hl;have hy:=hl y List.mem_cons_self;rw[List.takeWhile_cons_of_pos (by simp;omega),ih fun x hx=>hl x (mC _ hx)]
 rw[this _ h.inv.sk]
theorem Br(h:Inv P has most s){pre:List Ch}{x:Ch}(hs:s.stack=pre++[x]):(s.again pre x).first=((s.again pre x).stack.takeWhile fun y=>y.node !=x.node).length:=by
 unfold St.first;rw[qY h hs]
theorem Dg(s:St):s.mine.length+s.first=s.stack.length:=by
 have h1:s.first<=s.stack.length:=List.Sublist.length_le (List.takeWhile_sublist _);have h2:s.mine.length=s.stack.length-s.first:=by unfold St.mine;rw[List.length_drop]
 omega
end
section
variable{C:List Pk}{m:Mf}{dev:Bool}{pins:List Pn}{most:Nat}{s:St}
theorem Inv.stack_vs(h:Inv (gY C m dev pins) (bA C) most s){x:Ch}(hx:x∈s.stack):x.vs.length<=C.length+1:=by
 have h1:x∈kS s.stack x.node:=List.mem_filter.2 ⟨hx,by simp⟩;obtain⟨t,ht,e⟩:=eI.1 h1;obtain⟨nd,w,_,_,hl⟩:=h.gr x.node t x (by rw[gE ht,e]);exact(zD hl).1
end
theorem Pw(x:Ch):x.many<=x.vs.length+1:=by unfold Ch.many;split<;>omega
theorem Px(x:Ch):((x.many:Nat):Int)=(x.vs.length:Int)+if x.none then 1 else 0:=by unfold Ch.many;split<;>simp
theorem Ey{l:List Ch}(h:l≠[]):∃pre x,l=pre++[x]:=⟨l.dropLast,l.getLast h,(List.dropLast_concat_getLast h).symm⟩
def left(lim:Nat)(pt:Pt)(s:St)(d:Nat):Nat:=(lim-d)*20000+match pt with
 | .next=>10000+(200-s.k)
 | .try'=>2*s.stack.length
 | .back=>2*s.stack.length+1
end Top
end
end Go.Proofs.YtcohlmdnahdnaaaGreatDoor
