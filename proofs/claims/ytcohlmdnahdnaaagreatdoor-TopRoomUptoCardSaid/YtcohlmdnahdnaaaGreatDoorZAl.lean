/- Short names of laws that stand often. -/
import Derived.Deep.RegionHeld3
import Derived.Handy
import Derived.WalkSpells
import Derived.Lib.Hide
import Derived.Laws.AppendOwn
import Derived.Laws.OwnMore
import Derived.Below
import Derived.Laws.Strings
import Derived.WideShapes
import Derived.WideAt
import Derived.Lib.ItoaNum
import Derived.Lib.AtoiAll
import Derived.Test.YtcohlmdnahdnaaaGreatDoorChecked
import Derived.WalkSmall
import Derived.Lib.LaidTab
import Derived.Lib.LaidU8
import Derived.Test.YtcohlmdnahdnaaaGreatDoorZShelf
namespace Go.Proofs.YtcohlmdnahdnaaaGreatDoor
open Go.RowKit
set_option linter.unusedVariables false
set_option linter.unusedSimpArgs false
section
theorem nL{n:Nat}:n<=n:=Nat.le_refl n
section
variable{α:Type _}{β:Type _}{l m:List α}{i:Nat}{a b:α}
theorem gE(h:i<l.length):l[i]? =some l[i]:=List.getElem?_eq_getElem h
theorem gS(h:l[i]? =some a):∃h:i<l.length,l[i]=a:=List.getElem?_eq_some_iff.1 h
theorem mG(h:l[i]? =some a):a∈l:=List.mem_of_getElem? h
theorem lA:(l++m).length=l.length+m.length:=List.length_append
theorem lM(f:α->β):(l.map f).length=l.length:=List.length_map f
theorem lC:(a::l).length=l.length+1:=rfl
theorem gZ:(a::l)[0]? =some a:=rfl
theorem iS(a b:α):(some a=some b)=(a=b):=Option.some.injEq a b
theorem lN:([]:List α).length=0:=rfl
theorem mI:a∈[b]↔a=b:=List.mem_singleton
theorem gL(h:i<l.length):(l++m)[i]? =l[i]?:=List.getElem?_append_left h
theorem gM{f:α->β}:(l.map f)[i]? =(l[i]?).map f:=List.getElem?_map
theorem mC(y:α)(h:a∈l):a∈y::l:=List.mem_cons_of_mem y h
theorem eI:a∈l↔∃(i:Nat) (h:i<l.length),l[i]=a:=List.mem_iff_getElem
end
end
section
theorem Hd{p:Prop}(h:p):Hid p:=Lib.hid h
theorem ex{α:Sort _}(a:α):∃b,b=a:=⟨a,rfl⟩
/-- The steps of a list are taken. -/
def pK(P:Program)(md:Region.Mode)(ops:Array Oper)(Q:Exit->Act->World->Prop)(S:World->Prop)(w:World)(_is:List Nat)(n:Nat)(l:Array Bool)(a:Act)(n':Nat)(l':Array Bool)(a':Act):Prop:=wpAnyH P md ops Q S n' l' a' w->wpAnyH P md ops Q S n l a w
section
variable{P:Program}{ops:Array Oper}{Q:Exit->Act->World->Prop}{md:Region.Mode}{S:World->Prop}{w:World}{n n':Nat}{l l':Array Bool}{a a':Act}
theorem lay:(∀(t:Array Value) (ds) (i:Nat) (v:Value),(Act.mk t ds).put (some i) v=Act.mk (t.setIfInBounds i v) ds)/\(∀(t:Array Value) (ds) (v:Value),(Act.mk t ds).put none v=Act.mk t ds)/\(∀(l:List Value) (i:Nat) (x:Value),l.toArray.setIfInBounds i x=(l.set i x).toArray)/\(∀(a x:Value) (l:List Value),(a::l).set 0 x=x::l)/\(∀(a x:Value) (l:List Value) (n:Nat),(a::l).set (n+1) x=a::l.set n x)/\
    (∀(l:List Oper) (i:Nat) (h:i<l.toArray.size),l.toArray[i]=l[i]'(by simpa using h))/\(∀(a:Oper) (l:List Oper) (h:0<(a::l).length),(a::l)[0]=a)/\∀(a:Oper) (l:List Oper) (n:Nat) (h:n+1<(a::l).length),(a::l)[n+1]=l[n]'(by simpa using h):=
  ⟨fun _ _ _ _=>rfl,fun _ _ _=>rfl,fun _ _ _=>List.setIfInBounds_toArray .., fun _ _ _=>rfl,fun _ _ _ _=>rfl,fun _ _ _=>List.getElem_toArray .., fun _ _ _=>rfl,fun _ _ _ _=>rfl⟩
theorem Kw:pK P md ops Q S w [] n l a n l a:=fun h=>h
theorem Ru{i:Nat}{is:List Nat}{oi:Oper}{v:Value}(hi:ops[i]? =some oi)(hs:Region.noSelect ops=true)(hf:Region.free md ops l i=true)(hr:(Region.ready md ops l).contains i=true)(hw:Region.wanted oi (yielded ops a.tmps)=true)
    (hy:∀w,S w->(execOp a.eval oi).run P w=.ok (.value v) w)(hQ:∀c a w,Q (.panic c) (a.put oi.dst v) w->Q (.panic c) a w)(hS:S w)
    (h:pK P md ops Q S w is n (l.setIfInBounds i true) (a.put oi.dst v) n' l' a'):pK P md ops Q S w (i::is) (n+1) l a n' l' a':=fun g=>wpAnyH_take hi hs hf hr hQ (Or.inl ⟨hw,hy⟩) hS (h g)
theorem Rv{i:Nat}{is:List Nat}{oi:Oper}(hi:ops[i]? =some oi)(hs:Region.noSelect ops=true)(hf:Region.free md ops l i=true)(hr:(Region.ready md ops l).contains i=true)(hw:Region.wanted oi (yielded ops a.tmps)=false)
    (hQ:∀c a w,Q (.panic c) (a.put oi.dst undef) w->Q (.panic c) a w)(hS:S w)
    (h:pK P md ops Q S w is n (l.setIfInBounds i true) (a.put oi.dst undef) n' l' a'):pK P md ops Q S w (i::is) (n+1) l a n' l' a':=fun g=>wpAnyH_take hi hs hf hr hQ (Or.inr ⟨hw,rfl⟩) hS (h g)
/-- Steps, one behind the other. -/
theorem aM(is:List Nat)(h:wpAnyH P md ops Q S n' l' a' w)
    (hs:pK P md ops Q S w is n l a n' l' a':=by
      (try simp only[lay])
      repeat
        apply Ru
        ·exact rfl
        ·kernel_rfl
        ·kernel_rfl
        ·kernel_rfl
        ·kernel_rfl
        ·intro w hSw;(try dsimp only at hSw);go_simp;try with_reducible rfl
        ·exact fun _ _ _ h=>h
        ·assumption
        simp only[lay]
      exact Kw):wpAnyH P md ops Q S n l a w:=hs h
/-- Steps whose guard is down. -/
theorem wN(is:List Nat)(h:wpAnyH P md ops Q S n' l' a' w)
    (hs:pK P md ops Q S w is n l a n' l' a':=by
      (try simp only[lay])
      repeat
        apply Rv
        ·exact rfl
        ·kernel_rfl
        ·kernel_rfl
        ·kernel_rfl
        ·kernel_rfl
        ·exact fun _ _ _ h=>h
        ·assumption
        simp only[lay]
      exact Kw):wpAnyH P md ops Q S n l a w:=hs h
/-- None comes up any more. -/
theorem dN(h:Q .normal a w)(hr:Region.ready md ops l=[]:=by kernel_rfl):wpAnyH P md ops Q S n l a w:=wpAnyH_done hr h n
theorem rG(S:World->Prop){id:Nat}(h:S w.drew)(g:S w.drew->wpAnyH P .any ops Q S ops.size (Array.replicate ops.size false) a w.drew)(hf:P.follows Departure.mixedOrders=true:=by kernel_rfl):Code.wp P (.region id ops true) Q a w:=wp_region_held_drew hf h g
theorem cO{b c:Addr}{v:Value}(h:b≠c:=by intro h;injection h with h1 h2;omega):(w.setCell b v).cell? c=w.cell? c:=World.cell?_setCell_other w b c v h
theorem cS{α:Type _}{a b:α}(h:a=b:=by kernel_rfl):some a=some b:=congrArg some h
theorem cP(w:World)(a b:Addr)(v:Value)(h:a≠b):(w.setCell a v).cell? b=w.cell? b:=World.cell?_setCell_other w a b v h
theorem sA(w:World)(o:Obj):(w.alloc o).heap.size=w.heap.size+1:=World.size_alloc w o
theorem bR(B:Nat)(w:World):Below B w w:=Below.refl B w
/-- The next one that comes up. -/
theorem rd{o:Oper}(i:Nat)
    (h:∀K':Act->World->Prop,Shut (∀a w,S w->(S w->wpAnyH P md ops Q S n (l.setIfInBounds i true) a w)->K' a w)->if Region.wanted o (yielded ops a.tmps)=true then Oper.wp P o a w K' Q else K' (a.put o.dst undef) w)
    (ho:ops[i]? =some o:=by exact rfl)(hr:Region.ready md ops l=[i]:=by kernel_rfl):wpAnyH P md ops Q S (n+1) l a w:=wpAnyH_ready hr (by simp) (AllReadyH.cons ho h AllReadyH.nil)
end
end
def bs(l:List UInt8):ByteArray:=⟨l.toArray⟩
theorem aA(l:List UInt8):(bs l).toList=l:=by rw[ByteArray.toList_eq];rfl
def sv(l:List UInt8):Value:=.string (bs l)
theorem eU{w:World}{base:Nat}{e:TypeId}{size:Nat}{v:Value}{n:Nat}{xs:List Value}(h:w.ownsRow base e size v n xs)(hn:0<n):∃g cap,v=.slice (some ⟨g,0,none⟩) n cap/\base<=g/\g<w.heap.size:=by
 rcases h.2 with⟨rfl,rfl⟩ | ⟨g,cap,cur,rfl,hb,hg,_⟩
 ·omega
 ·refine⟨g,cap,rfl,hb,?_⟩;refine Decidable.byContradiction fun hh=>?_;rw[Array.getElem?_eq_none (by omega)]at hg;exact absurd hg (by simp)
theorem aC{w:World}{base:Nat}{e:TypeId}{size:Nat}{v:Value}{n:Nat}{xs:List Value}(h:w.ownsRow base e size v n xs):∃a cap,v=.slice a n cap:=by
 rcases h.2 with⟨rfl,rfl⟩ | ⟨g,cap,cur,rfl,_⟩
 ·exact⟨_,_,rfl⟩
 ·exact⟨_,_,rfl⟩
theorem aJ{w:World}{b b':Nat}{e e':TypeId}{z z':Nat}{v v':Value}{n n':Nat}{xs xs':List Value}(h:w.ownsRow b e z v n xs)(h':w.ownsRow b' e' z' v' n' xs')(he:e≠e'):v.ownBlock=none\/v.ownBlock≠v'.ownBlock:=by
 rcases h.2 with⟨rfl,rfl⟩ | ⟨g,cap,cur,rfl,_,hg,_⟩
 ·exact Or.inl rfl
 ·refine Or.inr fun k=>?_;rcases h'.2 with⟨rfl,rfl⟩ | ⟨g',cap',cur',rfl,_,hg',_⟩
  ·exact absurd k (by simp[Value.ownBlock])
  ·have:g=g':=Option.some.inj k;subst this;rw[hg]at hg';simp only[iS,Obj.cells.injEq]at hg';exact he hg'.2.1
theorem dI{w:World}{b b':Nat}{e:TypeId}{z:Nat}{v:Value}{n:Nat}{xs:List Value}(h:w.ownsRow b e z v n xs)(hb:b'<=b):w.ownsRow b' e z v n xs:=by
 refine⟨h.1,?_⟩;rcases h.2 with h2 | ⟨g,cap,cur,hv,hg,r⟩
 ·exact Or.inl h2
 ·exact Or.inr ⟨g,cap,cur,hv,by omega,r⟩
def rv(h:Nat×Nat)(n:Nat):Value:=.slice (some ⟨h.1,0,none⟩) n h.2
structure Lines(ts tl:TypeId)(w:World)(base Bw:Nat)(v:Value)(hs:List (Nat×Nat))(ls:List (List (List UInt8))):Prop where
 row:w.ownsRow base tl 1 v ls.length (List.zipWith (fun h (l:List (List UInt8))=>rv h l.length) hs ls)
 len:hs.length=ls.length
 rows:∀(i:Nat) (h:Nat×Nat) (l:List (List UInt8)),hs[i]? =some h->ls[i]? =some l->w.ownsRow base ts 1 (rv h l.length) l.length (l.map sv)
 sorted:hs.Pairwise fun a b=>a.1<b.1
 low:∀h∈hs,h.1<Bw
 top:∀g,v.ownBlock=some g->g<Bw
theorem Lines.nil(ts tl:TypeId)(w:World)(base Bw:Nat):Lines ts tl w base Bw (.slice none 0 0) [] []:=
 ⟨World.ownsRow_nil w base tl 1,rfl,fun i h l hh _=>by simp at hh,List.Pairwise.nil,fun h hh=>by simp at hh,fun g hg=>by simp[Value.ownBlock]at hg⟩
theorem Lines.kept{ts tl:TypeId}{w w':World}{base Bw:Nat}{v:Value}{hs:List (Nat×Nat)}{ls:List (List (List UInt8))}(h:Lines ts tl w base Bw v hs ls){row:Option Nat}(hg:w.grownBy w' row)(hr:∀g,row=some g->Bw<=g):Lines ts tl w' base Bw v hs ls:=by
 refine⟨h.row.kept hg ?_,h.len,fun i x l hx hl=>(h.rows i x l hx hl).kept hg ?_,h.sorted,h.low,h.top⟩
 ·cases hv:v.ownBlock with
  | none=>exact Or.inl rfl
  | some g=>
   refine Or.inr fun e=>?_;have:=h.top g hv;have:=hr g e.symm;omega
 ·refine Or.inr fun e=>?_;have h1:=h.low x (mG hx);have h2:=hr x.1 e.symm;omega
theorem Lines.alloc{ts tl:TypeId}{w:World}{base Bw:Nat}{v:Value}{hs:List (Nat×Nat)}{ls:List (List (List UInt8))}(h:Lines ts tl w base Bw v hs ls)(o:Obj):Lines ts tl (w.alloc o) base Bw v hs ls:=
 h.kept (World.grownBy_alloc w o none) (fun g e=>by simp at e)
theorem Lines.mono{ts tl:TypeId}{w:World}{base Bw Bw':Nat}{v:Value}{hs:List (Nat×Nat)}{ls:List (List (List UInt8))}(h:Lines ts tl w base Bw v hs ls)(hB:Bw<=Bw'):Lines ts tl w base Bw' v hs ls:=
 ⟨h.row,h.len,h.rows,h.sorted,fun x hx=>Nat.lt_of_lt_of_le (h.low x hx) hB,fun g hg=>Nat.lt_of_lt_of_le (h.top g hg) hB⟩
namespace Top
structure Ve where
 a:Int
 b:Int
 c:Int
 deriving DecidableEq
structure Sp where
 lo:Ve
 hi:Ve
 deriving DecidableEq
structure Dp where
 name:List UInt8
 rg:List Sp
 deriving DecidableEq
structure Pk where
 name:List UInt8
 v:Ve
 deps:List Dp
 peers:List Dp
 opts:List Dp
 deriving DecidableEq
structure Mf where
 deps:List Dp
 dev:List Dp
 opts:List Dp
 over:List Dp
 deriving DecidableEq
structure Pn where
 name:List UInt8
 v:Ve
 deriving DecidableEq
structure Eg where
 label:List UInt8
 dst:Int
 deriving DecidableEq
structure Nd where
 name:List UInt8
 v:Ve
 ctx:List Pn
 edges:List Eg
 deriving DecidableEq
structure Wt where
 name:List UInt8
 kind:Int
 rg:List Sp
 deriving DecidableEq
def v0:Ve:=⟨0,0,0⟩
def nd0:Nd:=⟨[],v0,[],[]⟩
def qN{α:Type}(f:α->List UInt8)(x:α):List α->List α
 | []=>[x]
 | y::r=>if bytesBefore (f x) (f y)then x::y::r else y::qN f x r
def yR{α:Type}(f:α->List UInt8)(l:List α):List α:=l.foldl (fun a x=>qN f x a) []
def fQ(l:List Pn):List Pn:=yR (·.name) l
end Top
namespace Num
theorem Jn{u:Nat}(h:u<10):Go.Lib.decDigits u=[UInt8.ofNat (48+u)]:=by rw[Go.Lib.decDigits,dif_pos h]
theorem Qn{u:Nat}(h:¬u<10):Go.Lib.decDigits u=Go.Lib.decDigits (u/10)++[UInt8.ofNat (48+u%10)]:=by rw[Go.Lib.decDigits,dif_neg h]
end Num
theorem zW{P:Program}{w:World}{n:String}{g:Nat}{cs:Array Value}(hg:P.globalNamed n=some g)(h:w.var? P n=some cs):g<w.heap.size:=by
 unfold World.var? at h;rw[hg]at h;simp only[Option.bind_some]at h;refine Decidable.byContradiction fun hh=>?_;rw[Array.getElem?_eq_none (by omega)]at h;exact absurd h (by simp)
theorem Ul:Tryz.prog.globalNamed "internal/strconv.uint64pow10" =some 3:=by kernel_rfl
structure Env(w:World):Prop where
 pow:Go.Lib.TabIs Tryz.prog w "internal/strconv.uint64pow10" .u64 Go.Lib.pow10Tab
theorem Env.below{B:Nat}{w w':World}(h:Env w)(hb:Below B w w')(hB:w.heap.size<=B):Env w':=
 ⟨var?_below hb Ul (Nat.lt_of_lt_of_le (zW Ul h.pow) hB) h.pow⟩
theorem Env.to{w w':World}(h:Env w)(hb:Below w.heap.size w w'):Env w':=h.below hb nL
end Go.Proofs.YtcohlmdnahdnaaaGreatDoor
