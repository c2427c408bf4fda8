/- A search begins with a node: the program's walk. -/
import Derived.Test.YtcohlmdnahdnaaaGreatDoorZMf1
import Derived.Test.YtcohlmdnahdnaaaGreatDoorZRs3
import Derived.Test.YtcohlmdnahdnaaaGreatDoorZRs6
namespace Go.Proofs.YtcohlmdnahdnaaaGreatDoor
open Go.RowKit
set_option linter.unusedVariables false
set_option linter.unusedSimpArgs false
set_option maxHeartbeats 16000000
set_option maxRecDepth 100000
section
open Top
namespace Top
structure WtsO(w:World)(M:Nat->Prop)(v:Value)(l:List Wt):Prop where
 is:∃cs:List Value,cs.length=l.length/\RowO 3 w M v (List.zipWith jL l cs)/\∀(i:Nat) (x:Wt) (c:Value),l[i]? =some x->cs[i]? =some c->RowO 6 w M c (x.rg.map aU)
theorem WtsO.of{w:World}{lo hi:Nat}{M:Nat->Prop}{v:Value}{l:List Wt}(h:WtsI w lo hi v l)(hM:∀k,M k->k<lo)(hh:hi<=w.heap.size):WtsO w M v l:=by
 obtain⟨cs,h1,h2,h3⟩:=h.is;exact⟨cs,h1,RowO.of h2 hM hh,fun i x c hx hc=>RowO.of (h3 i x c hx hc) hM hh⟩
theorem WtsO.keep{w w':World}{M M':Nat->Prop}{v:Value}{l:List Wt}(h:WtsO w M v l)(hs:w.heap.size<=w'.heap.size)(hk:∀k,k<w.heap.size->¬M k->w'.heap[k]? =w.heap[k]?)(hM:∀k,M' k->M k\/w.heap.size<=k):WtsO w' M' v l:=by
 obtain⟨cs,h1,h2,h3⟩:=h.is;exact⟨cs,h1,h2.keep hs hk hM,fun i x c hx hc=>(h3 i x c hx hc).keep hs hk hM⟩
theorem WtsO.at{w:World}{M:Nat->Prop}{v:Value}{l:List Wt}(h:WtsO w M v l):WtsAt w w.heap.size v l:=by
 obtain⟨cs,h1,h2,h3⟩:=h.is;exact⟨cs,h1,h2.row,fun i x c hx hc=>(h3 i x c hx hc).row⟩
structure Fx where
 s:Nat
 b:Nat
 v1:Value
 v2:Value
 v3:Value
 v4:Value
 vp:Value
 C:List Pk
 m:Mf
 dev:Bool
 pins:List Pn
def Fx.pb(f:Fx):Pb:=gY f.C f.m f.dev f.pins
structure FxOk(w:World)(B:Nat)(f:Fx):Prop where
 cat:CatAt w B f.s f.b f.C
 pz:∀p∈f.C,tV p
 mf:MfAt w B f.m f.v1 f.v2 f.v3 f.v4
 mz:Bt f.m
 pn:bN w B f.vp f.pins
 pl:f.pins.length<=1000000
theorem FxOk.below{w w':World}{n B:Nat}{f:Fx}(h:FxOk w B f)(hb:Below n w w')(hB:B<=n):FxOk w' B f:=⟨h.cat.below hb hB,h.pz,h.mf.below hb hB,h.mz,RowZ.below h.pn hb hB,h.pl⟩
theorem FxOk.mono{w:World}{B B':Nat}{f:Fx}(h:FxOk w B f)(hB:B<=B'):FxOk w B' f:=⟨h.cat.mono hB,h.pz,h.mf.mono hB,h.mz,RowZ.mono h.pn hB,h.pl⟩
theorem FxOk.key{w:World}{B:Nat}{f:Fx}(h:FxOk w B f){n:List UInt8}{v:Ve}(hh:bA f.C n v=true):nC (n,v):=by
 obtain⟨p,hp⟩:=Option.isSome_iff_exists.1 hh;obtain⟨h1,h2⟩:=dH hp;have:=(h.cat.pks p h1).2;rwa[h2]at this
structure Held(w:World)(base sb:Nat)(f:Fx)(s:St)(vs vn va vw vf:Value)(cs:List Value)(ce:List (Value×Value)):Prop where
 k:pM w sb (.pointer (some ⟨f.s,0,none⟩)) f.v1 f.v2 f.v3 f.v4 f.dev f.vp vs vn va vw vf
 r:SrR w base sb s vs vn va cs ce
 ok:FxOk w base f
 sb:base<=sb
section
variable{w w':World}{sb:Nat}{cc v1 v2 v3 v4:Value}{dev:Bool}{vp vs vn va vw vf:Value}
theorem pM.set7(h:pM w sb cc v1 v2 v3 v4 dev vp vs vn va vw vf)(v:Value):pM (w.setCell ⟨sb,7,none⟩ v) sb cc v1 v2 v3 v4 dev vp v vn va vw vf:=heap_setCell_same w sb 7 _ _ v h
theorem pM.set8(h:pM w sb cc v1 v2 v3 v4 dev vp vs vn va vw vf)(v:Value):pM (w.setCell ⟨sb,8,none⟩ v) sb cc v1 v2 v3 v4 dev vp vs v va vw vf:=heap_setCell_same w sb 8 _ _ v h
theorem pM.set9(h:pM w sb cc v1 v2 v3 v4 dev vp vs vn va vw vf)(v:Value):pM (w.setCell ⟨sb,9,none⟩ v) sb cc v1 v2 v3 v4 dev vp vs vn v vw vf:=heap_setCell_same w sb 9 _ _ v h
theorem pM.set10(h:pM w sb cc v1 v2 v3 v4 dev vp vs vn va vw vf)(v:Value):pM (w.setCell ⟨sb,10,none⟩ v) sb cc v1 v2 v3 v4 dev vp vs vn va v vf:=heap_setCell_same w sb 10 _ _ v h
theorem pM.set11(h:pM w sb cc v1 v2 v3 v4 dev vp vs vn va vw vf)(v:Value):pM (w.setCell ⟨sb,11,none⟩ v) sb cc v1 v2 v3 v4 dev vp vs vn va vw v:=heap_setCell_same w sb 11 _ _ v h
theorem pM.cell(h:pM w sb cc v1 v2 v3 v4 dev vp vs vn va vw vf)(i:Nat):w.cell? ⟨sb,i,none⟩=#[cc,v1,v2,v3,v4,.bool dev,vp,vs,vn,va,vw,vf][i]?:=Go.Lib.cell_of_heap (show w.heap[sb]? =some (.cells _ _ _)from h) i
theorem pM.soft(h:pM w sb cc v1 v2 v3 v4 dev vp vs vn va vw vf)(i:Nat):w.frozen? ⟨sb,i,none⟩=false:=Go.Lib.frozen_of_heap (show w.heap[sb]? =some (.cells _ _ _)from h) i
end
section
variable{w w':World}{base sb:Nat}{f:Fx}{s:St}{vs vn va vw vf:Value}{cs:List Value}{ce:List (Value×Value)}
theorem Held.grow(h:Held w base sb f s vs vn va vw vf cs ce)(hb:Below w.heap.size w w'):Held w' base sb f s vs vn va vw vf cs ce:=
 ⟨h.k.grow (hb.block sb h.k.lt),h.r.grow hb,h.ok.below (hb.mono (Nat.le_trans h.sb (Nat.le_of_lt h.k.lt))) nL,h.sb⟩
theorem Held.size(h:Held w base sb f s vs vn va vw vf cs ce):base<w.heap.size:=Nat.lt_of_le_of_lt h.sb h.k.lt
theorem Held.set10(h:Held w base sb f s vs vn va vw vf cs ce)(v:Value):Held (w.setCell ⟨sb,10,none⟩ v) base sb f s vs vn va v vf cs ce:=⟨h.k.set10 v,h.r.set 10 v h.k,h.ok.below ((bR base w).setCell h.sb _) nL,h.sb⟩
theorem Held.set11(h:Held w base sb f s vs vn va vw vf cs ce)(v:Value):Held (w.setCell ⟨sb,11,none⟩ v) base sb f s vs vn va vw v cs ce:=⟨h.k.set11 v,h.r.set 11 v h.k,h.ok.below ((bR base w).setCell h.sb _) nL,h.sb⟩
theorem Held.mut(h:Held w base sb f s vs vn va vw vf cs ce):∀k,kY sb vs vn va k->k<w.heap.size:=fun k hk=>by
 rcases hk with rfl | hk | hk | hk
 ·exact h.k.lt
 ·exact(h.r.st.lt k hk).2
 ·exact(h.r.nd.lt k hk).2
 ·exact(h.r.ah.lt k hk).2
theorem wW(h:Held w base sb f s vs vn va vw vf cs ce)(k:Nat)(nd:Nd)(hn:s.nodes[k]? =some nd)(hko:0<k->nC (nd.name,nd.v))(hN:s.nodes.length<=1000000):
 Calls Tryz.prog 34 #[.pointer (some ⟨sb,0,none⟩),.int .i64 k] w fun e w'=>e=.returned (.tuple #[])/\Below base w w'/\(∀j,j<w.heap.size->j≠sb->w'.heap[j]? =w.heap[j]?)/\∃a c,Held w' base sb f s vs vn va (.slice a (f.pb.own k nd).length c) vf cs ce/\WtsO w' (kY sb vs vn va) (.slice a (f.pb.own k nd).length c) (f.pb.own k nd):=by
 obtain⟨g,cap,c,e,hvn,hg1,hg2,hce,hcr,q0,q1,q2,q3,q4,q5⟩:=h.r.node hn;have hsz:=Nat.le_of_lt h.size;have hkk:=h.k;rw[hvn]at hkk;have hlt:=(gS hn).1;refine(Kn w sb k f.s f.b f.C (h.ok.cat.mono hsz) h.ok.pz f.m f.v1 f.v2 f.v3 f.v4 (h.ok.mf.mono hsz) h.ok.mz f.dev f.vp vs (some ⟨g,0,none⟩) s.nodes.length cap va vw vf hkk f.pins nd (fun h0=>⟨hlt,hN,hko h0,g,0,rfl,by rw[Nat.zero_add];exact q0,by rw[Nat.zero_add];exact q1,by rw[Nat.zero_add];exact q2,by rw[Nat.zero_add];exact q3⟩)).mono ?_;rintro e w' ⟨rfl,x,a,c,h1,h2,rfl⟩;have hx:=h.grow h2;refine⟨rfl,(h2.mono hsz).trans ((bR base x).setCell h.sb _),fun j hj hne=>(Below.heap_setCell _ _ _ _ hne).trans (h2.block j hj),a,c,hx.set10 _,(WtsO.of h1 h.mut nL).keep (by simp) (fun j hj hm=>Below.heap_setCell _ _ _ _ fun e=>hm (.inl e)) fun j hj=> .inl hj⟩
end
end Top
theorem yC(w:World)(base sb:Nat)(f:Fx)(s:St)(vs vn va vw vf:Value)(cs:List Value)(ce:List (Value×Value))(h:Held w base sb f s vs vn va vw vf cs ce)(nd:Nd)(hn:s.nodes[s.k]? =some nd)(hko:0<s.k->nC (nd.name,nd.v))(hN:s.nodes.length<=1000000)(hS:s.stack.length<=1000000):
 Calls Tryz.prog 15 #[.pointer (some ⟨sb,0,none⟩)] w fun e w'=>e=.returned (.tuple #[])/\Below base w w'/\∃a c,Held w' base sb f s vs vn va (.slice a (f.pb.own s.k nd).length c) (.int .i64 s.stack.length) cs ce/\WtsO w' (kY sb vs vn va) (.slice a (f.pb.own s.k nd).length c) (f.pb.own s.k nd):=by
 obtain⟨sa,sc,hvs⟩:=aC h.r.st;obtain⟨aa,ac,hva⟩:=aC h.r.ah;obtain⟨K,hK⟩:∃n,n=s.k:=⟨_,rfl⟩;obtain⟨SN,hSN⟩:∃n,n=s.stack.length:=⟨_,rfl⟩;have hva':va=.slice aa K ac:=by rw[hva,hK];rfl
 rw[<-hSN]at hvs hS |-;have c9:w.cell? ⟨sb,9,none⟩=some (.slice aa K ac):=by rw[<-hva'];exact h.k.cell 9
 have c7:w.cell? ⟨sb,7,none⟩=some (.slice sa SN sc):=by rw[<-hvs];exact h.k.cell 7
 have c11:w.cell? ⟨sb,11,none⟩=some vf:=h.k.cell 11;have f11:=h.k.soft 11;have HW:=Hd (wW (h.set11 (.int .i64 SN)) K nd (by rw[hK];exact hn) (by rw[hK];exact hko) hN);have HB:Hid (Below base w (w.setCell ⟨sb,11,none⟩ (.int .i64 SN))):=Hd ((bR base w).setCell h.sb _);rw[<-hK];clear h hn hko hN hva hva' hvs hSN hK;go_enter Tryz.func15,Tryz.ntmps15;go_upto_region 2 with fail;go_wp2_with fail;refine HW.out.mono ?_;rintro e w' ⟨rfl,hb,_,a,c,h1,h2⟩;go_wp2_with fail;go_returns;exact⟨rfl,HB.out.trans hb,a,c,h1,h2⟩
end
end Go.Proofs.YtcohlmdnahdnaaaGreatDoor
