/- Versions struck from a row of the call's own: the program's walk. -/
import Derived.Laws.IdiomCopy
import Derived.Test.YtcohlmdnahdnaaaGreatDoorZCat3
namespace Go.Proofs.YtcohlmdnahdnaaaGreatDoor
open Go.RowKit
set_option linter.unusedVariables false
set_option linter.unusedSimpArgs false
set_option maxHeartbeats 16000000
set_option maxRecDepth 100000
section
open Top
namespace Top
structure VH(w:World)(g:Nat)(l:List Ve):Prop where
 cell:∀(i:Nat) (x:Ve),l[i]? =some x->w.cell? ⟨g,i*3,none⟩=some (.int .i64 x.a)/\w.cell? ⟨g,i*3+1,none⟩=some (.int .i64 x.b)/\w.cell? ⟨g,i*3+2,none⟩=some (.int .i64 x.c)
 froz:∀i,w.frozen? ⟨g,i,none⟩=false
theorem VH.under{w w':World}{g:Nat}{l:List Ve}(h:VH w g l)(hb:w'.heap[g]? =w.heap[g]?):VH w' g l:=by
 refine⟨fun i x hx=>?_,fun i=>?_⟩
 ·obtain⟨h1,h2,h3⟩:=h.cell i x hx;exact⟨(World.cell?_of_block (a:=⟨g,i*3,none⟩) hb).trans h1,(World.cell?_of_block (a:=⟨g,i*3+1,none⟩) hb).trans h2,(World.cell?_of_block (a:=⟨g,i*3+2,none⟩) hb).trans h3⟩
 ·have:=h.froz i;unfold World.frozen? at this |-;rw[hb];exact this
theorem VH.of_row{w:World}{B g n c:Nat}{l:List Ve}(h:lK w B (.slice (some ⟨g,0,none⟩) n c) l):VH w g l/\B<=g/\g<w.heap.size:=by
 have h':=h;unfold lK at h;refine⟨⟨fun i x hx=>?_,fun i=>?_⟩,(h.lt g rfl).1,(h.lt g rfl).2⟩
 ·have hi:=(gS hx).1;rcases h.2 with⟨h1,_⟩ | ⟨g',cap',cur,h1,_⟩
  ·cases h1
  ·cases h1;have key:∀u,u<3->w.cell? ⟨g,i*3+u,none⟩=(aI x)[u]?:=fun u hu=>by
    have hall:=World.ownsRow.cellAt h (i*3+u) (by omega);rw[hall,eG oI (by decide) l _ (by omega),show(i*3+u)/3=i by omega,show(i*3+u)%3=u by omega];have:l[i]! =x:=by
     obtain⟨h1,h2⟩:=gS hx;rw[getElem!_pos l i h1,h2]
    rw[this]
   exact⟨key 0 (by decide),key 1 (by decide),key 2 (by decide)⟩
 ·rcases h.2 with⟨h1,_⟩ | ⟨g',cap',cur,h1,_,hb,_⟩
  ·cases h1
  ·cases h1;exact Go.Lib.frozen_of_heap hb i
theorem VH.rowz{w:World}{g n c:Nat}{l:List Ve}(h:VH w g l)(hl:l.length=n)(hc:n<=c)(hg:g<w.heap.size):RowZ 3 w w.heap.size (.slice (some ⟨g,0,none⟩) n c) (l.map aI):=by
 refine⟨_,_,by rw[lM,hl],by rw[lM,hl];exact hc,fun i x hx=>⟨g,0,rfl,hg,fun j u hu=>?_⟩⟩;rw[gM]at hx;cases hy:l[i]? with
 | none=>rw[hy]at hx;simp at hx
 | some y=>
  rw[hy]at hx;simp only[Option.map_some,iS]at hx;subst hx;obtain⟨h1,h2,h3⟩:=h.cell i y hy;rw[Nat.zero_add]
  match j,hu with
  | 0,hu=>simp only[aI,gZ,iS]at hu;subst hu;exact h1
  | 1,hu=>simp only[aI,List.getElem?_cons_succ,gZ,iS]at hu;subst hu;exact h2
  | 2,hu=>simp only[aI,List.getElem?_cons_succ,gZ,iS]at hu;subst hu;exact h3
  | j+3,hu=>simp[aI]at hu
theorem VH.take{w:World}{g i:Nat}{l:List Ve}(h:VH w g l):VH w g (l.take i):=⟨fun k x hx=>h.cell k x (by
 rw[List.getElem?_take]at hx;split at hx
 ·exact hx
 ·simp at hx),h.froz⟩
theorem VH.set{w:World}{g i:Nat}{l:List Ve}(h:VH w g l)(hi:i<l.length)(x:Ve):VH (bI w g (i*3) [.int .i64 x.a,.int .i64 x.b,.int .i64 x.c]) g (l.set i x):=by
 obtain⟨h1,h2,h3⟩:=h.cell i l[i] (gE hi);have hat:=bK g [.int .i64 x.a,.int .i64 x.b,.int .i64 x.c] w (i*3) (fun j hj=>by
  match j,hj with
  | 0,_=>exact⟨_,h1⟩
  | 1,_=>exact⟨_,h2⟩
  | 2,_=>exact⟨_,h3⟩)
 refine⟨fun k y hy=>?_,fun k=>by rw[oC];exact h.froz k⟩;by_cases hk:k=i
 ·subst hk;rw[List.getElem?_set_self (by omega)]at hy;cases hy;exact⟨hat 0 _ rfl,hat 1 _ rfl,hat 2 _ rfl⟩
 ·rw[List.getElem?_set_ne (by omega)]at hy;obtain⟨g1,g2,g3⟩:=h.cell k y hy;have far:∀u,u<3->(bI w g (i*3) [.int .i64 x.a,.int .i64 x.b,.int .i64 x.c]).cell? ⟨g,k*3+u,none⟩=w.cell? ⟨g,k*3+u,none⟩:=fun u hu=>by
   simp only[bI];have ne:∀m,i*3<=m->m<i*3+3->(⟨g,m,none⟩:Addr)≠⟨g,k*3+u,none⟩:=fun m hm hm2 e=>by
    injection e with e1 e2
    omega
   rw[cP (h:=ne _ (by omega) (by omega)),cP (h:=ne _ (by omega) (by omega)),cP (h:=ne _ (by omega) (by omega))]
  exact⟨(far 0 (by omega)).trans g1,(far 1 (by omega)).trans g2,(far 2 (by omega)).trans g3⟩
theorem VH.clear{w:World}{g i:Nat}{l:List Ve}(h:VH w g l)(vs:List Value):VH (w.setCells g (i*3) vs) g (l.take i):=by
 refine⟨fun k y hy=>?_,fun k=>by rw[World.frozen?_setCells];exact h.froz k⟩;rw[List.getElem?_take]at hy;split at hy
 ·rename_i hk
  obtain⟨g1,g2,g3⟩:=h.cell k y hy;have far:∀u,u<3->(w.setCells g (i*3) vs).cell? ⟨g,k*3+u,none⟩=w.cell? ⟨g,k*3+u,none⟩:=fun u hu=>World.cell?_setCells_out g vs _ w _ (fun _ _=>Or.inl (by show k*3+u<i*3;omega));exact⟨(far 0 (by omega)).trans g1,(far 1 (by omega)).trans g2,(far 2 (by omega)).trans g3⟩
 ·simp at hy
theorem fI{a b c:World}{r:Option Nat}(h:a.grownBy b r)(k:b.grownBy c r):a.grownBy c r:=⟨k.os.trans h.os,k.tape.trans h.tape,k.output.trans h.output,Nat.le_trans h.size k.size,fun i hi hr=>(k.block i (Nat.lt_of_lt_of_le hi h.size) hr).trans (h.block i hi hr)⟩
theorem fJ{a b:World}(r:Option Nat)(h:Below a.heap.size a b):a.grownBy b r:=⟨h.os,h.tape,h.output,h.size,fun i hi _=>h.block i hi⟩
theorem oG(w:World)(g i:Nat)(v:Value):w.grownBy (w.setCell ⟨g,i,none⟩ v) (some g):=by
 have h:=(bR g w).setCell (p:=⟨g,i,none⟩) nL v;refine⟨h.os,h.tape,h.output,h.size,fun k _ hk=>?_⟩;exact Below.heap_setCell _ _ _ _ (fun e=>hk (by rw[e]))
theorem qQ(g:Nat):∀(vs:List Value) (w:World) (k:Nat),w.grownBy (bI w g k vs) (some g)
 | [],w,k=>fJ _ (bR _ _)
 | v::r,w,k=>fI (oG w g k v) (qQ g r _ _)
theorem mP(g:Nat):∀(vs:List Value) (o:Nat) (w:World),w.grownBy (w.setCells g o vs) (some g)
 | [],o,w=>fJ _ (bR _ _)
 | v::r,o,w=>fI (oG w g o v) (mP g r _ _)
theorem Cn{P:Program}(w:World)(t e ty:TypeId)(ht:P.underlying t=some (.slice e))(hv:∀w,(zeroValue e).run P w=.ok (.agg #[.int .i64 0,.int .i64 0,.int .i64 0]) w)(b o n c:Nat)(hn:0<n)
 (hc:∀j,j<n*3->(w.cell? ⟨b,o+j,none⟩).isSome=true)(hf:∀j,w.frozen? ⟨b,o+j,none⟩=false):
 (Builtin.clear_ #[t] ty #[.slice (some ⟨b,o,none⟩) n c]).run P w=.ok (.tuple #[]) (w.setCells b o (List.replicate (n*3) (.int .i64 0))):=by
 have hzc:(Builtin.zeroCells (Value.agg #[.int .i64 0,.int .i64 0,.int .i64 0]).cells n).toList=List.replicate (n*3) (.int .i64 0):=by
  show(Builtin.zeroCells #[.int .i64 0,.int .i64 0,.int .i64 0] n).toList=_;unfold Builtin.zeroCells;apply List.ext_getElem
  ·simp
  ·intro i h1 h2;simp;have:i%3<3:=Nat.mod_lt _ (by decide);rcases(show i%3=0\/i%3=1\/i%3=2 by omega)with h | h | h<;>rw[h]<;>rfl
 have hst:=run_storeCells_cells (P:=P) b o (List.replicate (n*3) (.int .i64 0)) 0 w (by simpa using hc) (fun j _=>hf j) (by intro v hv';rw[List.eq_of_mem_replicate hv'];rfl);simp only[Nat.add_zero]at hst;obtain⟨m,rfl⟩:∃m,n=m+1:=⟨n-1,by omega⟩;simp[Builtin.clear_,run_underlying ht,hv,hzc,hst]
end Top
theorem Jm(w:World)(g n c:Nat)(l:List Ve)(h:VH w g l)(hl:l.length=n)(hn:n<=1000000)(hc:n<=c)(hcm:c<=9223372036854775807)(hg:g<w.heap.size)(p:Ve->Bool)(f:Nat)(caps:Array Value)(hen:∀args w,(callFunc f args).run Tryz.prog w=.ok (.enter f args) w)
 (hp:∀(x:Ve) W,w.grownBy W (some g)->Calls Tryz.prog f (#[.agg ⟨aI x⟩]++caps) W fun e w'=>e=.returned (.bool (p x))/\Below W.heap.size W w'):
 Calls Tryz.prog 79 #[.slice (some ⟨g,0,none⟩) n c,.func (.func f) #[] caps] w fun e w'=>e=.returned (.slice (some ⟨g,0,none⟩) (l.filter fun x=>!p x).length c)/\VH w' g (l.filter fun x=>!p x)/\w.grownBy w' (some g):=by
 have hix:=sW w (.slice (some ⟨g,0,none⟩) n c) (l.map aI) (fun i=>match l[i]? with | some x=>p x | none=>false) f caps hen (h.rowz hl hc hg) (fun x hx=>by
  obtain⟨y,_,rfl⟩:=List.mem_map.1 hx;rfl) (by rw[lM];omega) (fun i x hx W hW=>by
  rw[gM]at hx;cases hy:l[i]? with
  | none=>rw[hy]at hx;simp at hx
  | some y=>
   rw[hy]at hx;simp only[Option.map_some,iS]at hx;subst hx;exact hp y W (fJ _ hW))
 rw[lM]at hix;obtain⟨fa,hfa⟩:∃z,z=aN (fun i=>match l[i]? with | some x=>p x | none=>false) l.length:=⟨_,rfl⟩;rw[<-hfa]at hix;have hcs:=gW (fun i=>match l[i]? with | some x=>p x | none=>false) l.length;rw[<-hfa,hl]at hcs;have HIX:=Hd hix;have HCS:=Hd hcs;have HP:=Hd hp;have HV:=Hd h;have HL:=Hd hl;clear hix hcs hp h hl hfa;go_enter Tryz.func79,Tryz.ntmps79;go_wp2_with fail;refine HIX.out.mono ?_;rintro e w1 ⟨rfl,hb1⟩;have HV1:Hid (VH w1 g l):=Hd (HV.out.under (hb1.block g hg));have HG1:Hid (w.grownBy w1 (some g)):=Hd (fJ _ hb1);clear hb1;rcases HCS.out with⟨k,hk,hpk,hno,hfk⟩ | ⟨hno,hfk⟩
 ·have hkeep:l.take k=(l.take k).filter fun x=>!p x:=by
   symm;rw[List.filter_eq_self];intro x hx;obtain⟨i,hi,rfl⟩:=eI.1 hx;rw[List.length_take]at hi;have:=hno i (by omega);rw[gE (by omega)]at this;rw[List.getElem_take];have h2:p (l[i]'(by omega))=false:=this;rw[h2];rfl
  have hnx:(l.take (k+1)).filter (fun x=>!p x)=l.take k:=by
   have hkl:k<l.length:=by rw[HL.out];exact hk
   rw[List.take_add_one,gE hkl,List.filter_append,<-hkeep];have h2:p l[k]=true:=by
    have:=hpk;rw[gE hkl]at this;exact this
   have h3:(some l[k]).toList.filter (fun x=>!p x)=[]:=by
    show [l[k]].filter (fun x=>!p x)=[];rw[List.filter_cons_of_neg (by rw[h2];simp)];rfl
   rw[h3,List.append_nil]
  have HNX:=Hd hnx;have hfk1:¬fa= -1:=by omega
  have hfk2:(fa== -1)=false:=by simpa using hfk1
  subst hfk;clear hno hpk hkeep hnx;clear HCS HIX;go_wp2;go_loopw [5,6] (fun x5 x6 wr=>∃(i j:Nat) (cur:List Ve),x5=.int .i64 i/\x6=.int .i64 j/\i<j/\j<=n/\cur.length=n/\cur.take i=(l.take j).filter (fun x=>!p x)/\cur.drop j=l.drop j/\VH wr g cur/\w.grownBy wr (some g)) (fun _ x6 _=>n-(intOf x6).toNat);case atStart=>exact⟨k,k+1,l,rfl,by go_num,by omega,by omega,HL.out,HNX.out.symm,rfl,HV1.out,HG1.out⟩
  case round=>
   clear HNX HV1 HG1;obtain⟨wo,rfl⟩:∃x,x=wr:=⟨wr,rfl⟩;obtain⟨i,j,cur,rfl,rfl,hij,hjn,hcl,htk,hdr,hvh,hgr⟩:=hrel;have HCL:=Hd hcl;have HTK:=Hd htk;have HDR:=Hd hdr;have HVH:=Hd hvh;have HGR:=Hd hgr;have hgo:g<wo.heap.size:=Nat.lt_of_lt_of_le hg hgr.size;clear hcl htk hdr hvh hgr;by_cases hj2:j<n
   ·obtain⟨x,hx⟩:∃x,l[j]? =some x:=⟨_,gE (by have:=HL.out;omega)⟩;have hcx:cur[j]? =some x:=by
     have h1:(cur.drop j)[0]? =(l.drop j)[0]?:=by rw[HDR.out]
     rw[List.getElem?_drop,List.getElem?_drop,Nat.add_zero,hx]at h1;exact h1
    obtain⟨z0,z1,z2⟩:=HVH.out.cell j x hcx;have HX:=Hd hx;obtain⟨w2,hw2⟩:∃y,y=wo.alloc (.cells #[.int .i64 x.a,.int .i64 x.b,.int .i64 x.c] 50):=⟨_,rfl⟩;have hb2:Below wo.heap.size wo w2:=by rw[hw2];exact(bR _ wo).alloc nL _
    have hs2:w2.heap.size=wo.heap.size+1:=by rw[hw2];exact sA _ _
    have t0:w2.cell? ⟨wo.heap.size,0,none⟩=some (.int .i64 x.a):=by rw[hw2];exact aB rfl rfl
    have t1:w2.cell? ⟨wo.heap.size,1,none⟩=some (.int .i64 x.b):=by rw[hw2];exact aB rfl rfl
    have t2:w2.cell? ⟨wo.heap.size,2,none⟩=some (.int .i64 x.c):=by rw[hw2];exact aB rfl rfl
    have hcall:Calls Tryz.prog f (#[.agg #[.int .i64 x.a,.int .i64 x.b,.int .i64 x.c]]++caps) w2 fun e w'=>e=.returned (.bool (p x))/\Below w2.heap.size w2 w':=HP.out x w2 (fI HGR.out (fJ _ hb2));obtain⟨px,hpx⟩:∃b,b=p x:=⟨_,rfl⟩;rw[<-hpx]at hcall;have HPX:=Hd hpx;have HCALL:=Hd hcall;have HW2:=Hd hw2;have HB2:=Hd hb2;have HS2:=Hd hs2;have HDR2:Hid (cur.drop (j+1)=l.drop (j+1)):=Hd (by
     rw[<-List.drop_drop,<-List.drop_drop,HDR.out])
    obtain⟨xa,xb,xc⟩:=x;dsimp only at z0 z1 z2 t0 t1 t2 HCALL HW2;clear hx hcx hw2 hb2 hs2 hcall hpx;go_wp2_with fail;rw[<-HW2.out];refine HCALL.out.mono ?_;rintro e w3 ⟨rfl,hb3⟩;have hb23:Below wo.heap.size wo w3:=HB2.out.trans (hb3.mono (by have:=HS2.out;omega));have t0:=(hb3.cell (p:=⟨wo.heap.size,0,none⟩) (by show wo.heap.size<_;have:=HS2.out;omega)).trans t0;have t1:=(hb3.cell (p:=⟨wo.heap.size,1,none⟩) (by show wo.heap.size<_;have:=HS2.out;omega)).trans t1;have t2:=(hb3.cell (p:=⟨wo.heap.size,2,none⟩) (by show wo.heap.size<_;have:=HS2.out;omega)).trans t2;have HV3:Hid (VH w3 g cur):=Hd (HVH.out.under (hb23.block g hgo));have HG3:Hid (w.grownBy w3 (some g)):=Hd (fI HGR.out (fJ _ hb23));clear hb3 hb23;cases px
    ·obtain⟨y,hy⟩:∃y,cur[i]? =some y:=⟨_,gE (by have:=HCL.out;omega)⟩;obtain⟨y0,y1,y2⟩:=HV3.out.cell i y hy;have f0:=HV3.out.froz (i*3);have f1:=HV3.out.froz (i*3+1);have f2:=HV3.out.froz (i*3+2);have HSET:=Hd (HV3.out.set (i:=i) (by have:=HCL.out;omega) ⟨xa,xb,xc⟩);have HGS:=Hd (fI HG3.out (qQ g [.int .i64 xa,.int .i64 xb,.int .i64 xc] w3 (i*3)));have HTK2:Hid ((cur.set i ⟨xa,xb,xc⟩).take (i+1)=(l.take (j+1)).filter (fun x=>!p x)):=Hd (by
      have hil:i<cur.length:=by have:=HCL.out;omega
      rw[List.take_add_one,List.getElem?_set_self hil,List.take_set_of_le (Nat.le_refl i),HTK.out,List.take_add_one,HX.out,List.filter_append];congr 1;show [_]=List.filter _ [_];rw[List.filter_cons_of_pos (by rw[<-HPX.out];rfl)];rfl)
     have HDR3:Hid ((cur.set i ⟨xa,xb,xc⟩).drop (j+1)=l.drop (j+1)):=Hd (by
      rw[List.drop_set_of_lt (by omega)];exact HDR2.out)
     clear hy;have hij2:(i:Int)<(n:Int):=by omega
     go_wp2;go_roundw;case rel=>exact⟨i+1,j+1,cur.set i ⟨xa,xb,xc⟩,by go_num,by go_num,by omega,by omega,by rw[List.length_set];exact HCL.out,HTK2.out,HDR3.out,HSET.out,HGS.out⟩
     case measure=>simp[intOf];omega
    ·have HTK2:Hid (cur.take i=(l.take (j+1)).filter (fun x=>!p x)):=Hd (by
      rw[HTK.out,List.take_add_one,HX.out,List.filter_append];have:(some (⟨xa,xb,xc⟩:Ve)).toList.filter (fun x=>!p x)=[]:=by
       show List.filter _ [_]=[];rw[List.filter_cons_of_neg (by rw[<-HPX.out];simp)];rfl
      rw[this,List.append_nil])
     go_wp2;go_roundw;case rel=>exact⟨i,j+1,cur,rfl,by go_num,by omega,by omega,HCL.out,HTK2.out,HDR2.out,HV3.out,HG3.out⟩
     case measure=>simp[intOf];omega
   ·have hjn2:j=n:=by omega
    have HF:Hid (cur.take i=l.filter fun x=>!p x):=Hd (by
     rw[HTK.out,List.take_of_length_le (by have:=HL.out;omega)])
    have HFL:Hid ((l.filter fun x=>!p x).length=i):=Hd (by rw[<-HF.out,List.length_take];have:=HCL.out;omega);have HVC:=Hd (HVH.out.clear (i:=i) (List.replicate ((n-i)*3) (.int .i64 0)));have HGC:=Hd (fI HGR.out (mP g (List.replicate ((n-i)*3) (.int .i64 0)) (i*3) wo));have hclr:∀ty,(Builtin.clear_ #[63] ty #[.slice (some ⟨g,i*3,none⟩) (n-i) (c-i)]).run Tryz.prog wo=.ok (.tuple #[]) (wo.setCells g (i*3) (List.replicate ((n-i)*3) (.int .i64 0))):=fun ty=>by
     refine Cn wo _ 50 ty Tryz.underlying63 (by intro w;kernel_rfl) g (i*3) (n-i) (c-i) (by omega) (fun u hu=>?_) (fun u=>HVH.out.froz _);have hul:i+u/3<cur.length:=by have:=HCL.out;omega
     obtain⟨c0,c1,c2⟩:=HVH.out.cell (i+u/3) _ (gE hul);have e:i*3+u=(i+u/3)*3+u%3:=by omega
     rw[e];rcases(show u%3=0\/u%3=1\/u%3=2 by omega)with h | h | h<;>rw[h]
     ·rw[Nat.add_zero,c0];rfl
     ·rw[c1];rfl
     ·rw[c2];rfl
    clear hjn2;go_wp2;go_returns;rw[HFL.out];refine⟨rfl,?_,HGC.out⟩;have:=HVC.out;rw[HF.out]at this;exact this
 ·have HF:Hid ((l.filter fun x=>!p x)=l):=Hd (by
   rw[List.filter_eq_self];intro x hx;obtain⟨i,hi,rfl⟩:=eI.1 hx;have:=hno i (by have:=HL.out;omega);rw[gE hi]at this;have h2:p l[i]=false:=this;rw[h2];rfl)
  subst hfk;clear hno;go_wp2;go_returns;rw[HF.out,HL.out];exact⟨rfl,HV1.out,HG1.out⟩
end
section
open Top
namespace Top
def Lt(b:Bool):Int:=if b then 1 else 0
def Tn(pins:List Pn)(n:List UInt8)(x y:Ve):Int:=Lt (pinned pins n y)-Lt (pinned pins n x)
theorem ltP(pins:List Pn)(n:List UInt8):Go.Proofs.ltOf (Tn pins n)=Af pins n:=by
 funext x y;show decide (Tn pins n x y<0)=(pinned pins n x && !pinned pins n y);unfold Tn;cases pinned pins n x<;>cases pinned pins n y<;>rfl
end Top
theorem xJ(b:Bool)(w:World):Calls Tryz.prog 84 #[.bool b] w fun e w'=>e=.returned (.int .i64 (Lt b))/\w'=w:=by
 cases b
 all_goals
  go_enter Tryz.func84,Tryz.ntmps84;go_wp2;go_returns;exact⟨rfl,rfl⟩
theorem wT(w:World)(v:Value)(l:List Pn)(q:Pn)(h:bN w w.heap.size v l)(hn:l.length<=4611686018427387904):
 Calls Tryz.prog 85 #[v,.agg #[.string (bs q.name),.int .i64 q.v.a,.int .i64 q.v.b,.int .i64 q.v.c]] w fun e w'=>e=.returned (.bool (l.any fun p=>dF q p))/\bZ w w':=by
 obtain⟨qn,⟨qa,qb,qc⟩⟩:=q;obtain⟨wb,hwb⟩:=ex (w.alloc (.cells #[.string (bs qn),.int .i64 qa,.int .i64 qb,.int .i64 qc] 101));have hg:bZ w wb:=by rw[hwb];exact(bZ.refl w).alloc _
 have hb:=hg.below;obtain⟨fa,hfa⟩:=ex (aN (fun i=>match l[i]? with | some p=>dF ⟨qn,⟨qa,qb,qc⟩⟩ p | none=>false) l.length);have hc:Calls Tryz.prog 128 #[v,.agg #[.string (bs qn),.int .i64 qa,.int .i64 qb,.int .i64 qc]] wb fun e w'=>e=.returned (.int .i64 fa)/\bZ wb w':=by
  rw[hfa];exact Dq wb v l ⟨qn,⟨qa,qb,qc⟩⟩ ((RowZ.below h hb nL).mono hb.size) hn
 have hcs:=gW (fun i=>match l[i]? with | some p=>dF ⟨qn,⟨qa,qb,qc⟩⟩ p | none=>false) l.length;rw[<-hfa]at hcs;have hr:(0<=fa/\(l.any fun p=>dF ⟨qn,⟨qa,qb,qc⟩⟩ p)=true)\/(fa<0/\(l.any fun p=>dF ⟨qn,⟨qa,qb,qc⟩⟩ p)=false):=by
  rcases hcs with⟨k,hk,hp,_,e⟩ | ⟨hno,e⟩
  ·refine Or.inl ⟨by omega,?_⟩;rw[gE hk]at hp;rw[List.any_eq_true];exact⟨l[k],List.getElem_mem hk,hp⟩
  ·refine Or.inr ⟨by omega,?_⟩;rw[List.any_eq_false];intro p hp;obtain⟨i,hi,rfl⟩:=eI.1 hp;have:=hno i hi;rw[gE hi]at this;have h2:dF ⟨qn,⟨qa,qb,qc⟩⟩ l[i]=false:=this;rw[h2];simp
 obtain⟨r,hrr⟩:=ex (l.any fun p=>dF ⟨qn,⟨qa,qb,qc⟩⟩ p);rw[<-hrr]at hr |-;have HC:Hid (Calls Tryz.prog 128 #[v,.agg #[.string (bs qn),.int .i64 qa,.int .i64 qb,.int .i64 qc]] wb fun e w'=>e=.returned (.int .i64 fa)/\bZ wb w'):=Hd hc;have HG:=Hd hg;have HWB:=Hd hwb;clear hc hcs hfa hrr hwb hb hg h;rcases hr with⟨h1,rfl⟩ | ⟨h1,rfl⟩
 ·have h2:decide (0<=fa)=true:=decide_eq_true h1;go_enter Tryz.func85,Tryz.ntmps85;go_wp2_with fail;rw[<-HWB.out];refine HC.out.mono ?_;rintro e w2 ⟨rfl,hg2⟩;have HG2:=Hd (HG.out.trans hg2);clear hg2;go_wp2;go_returns;exact⟨by first | rfl | simp[h1],HG2.out⟩
 ·have h2:decide (0<=fa)=false:=decide_eq_false (by omega);have h3:¬0<=fa:=by omega
  go_enter Tryz.func85,Tryz.ntmps85;go_wp2_with fail;rw[<-HWB.out];refine HC.out.mono ?_;rintro e w2 ⟨rfl,hg2⟩;have HG2:=Hd (HG.out.trans hg2);clear hg2;go_wp2;go_returns;exact⟨by first | rfl | simp[h3],HG2.out⟩
theorem Es(pins:List Pn)(n:List UInt8)(v:Ve):(pins.any fun p=>dF ⟨n,v⟩ p)=pinned pins n v:=by
 unfold pinned dF;congr 1;funext p;by_cases h:p=⟨n,v⟩
 ·rw[decide_eq_true h,decide_eq_true h.symm]
 ·rw[decide_eq_false h,decide_eq_false (fun e=>h e.symm)]
theorem tF:∀args w,(callFunc 81 args).run Tryz.prog w=.ok (.enter 81 args) w:=fun _ _=>by kernel_rfl
theorem Bg:∀args w,(callFunc 83 args).run Tryz.prog w=.ok (.enter 83 args) w:=fun _ _=>by kernel_rfl
theorem Jw(x:Ve)(W:World)(b:Nat)(ra:Option Addr)(M rc:Nat)(rg:List Sp)(hr:iH W W.heap.size (.slice ra M rc) rg)(hn:rg.length<=4611686018427387904)(hb:b<W.heap.size)(hc:W.cell? ⟨b,0,none⟩=some (.slice ra M rc)):
 Calls Tryz.prog 81 (#[.agg ⟨aI x⟩]++#[.pointer (some ⟨b,0,none⟩)]) W fun e w'=>e=.returned (.bool (!gI rg x))/\Below W.heap.size W w':=by
 obtain⟨xa,xb,xc⟩:=x;obtain⟨wb,hwb⟩:=ex (W.alloc (.cells #[.int .i64 xa,.int .i64 xb,.int .i64 xc] 50));have hbb:Below W.heap.size W wb:=by rw[hwb];exact(bR _ W).alloc nL _
 have hcon:=qO wb (.slice ra M rc) rg ⟨xa,xb,xc⟩ ((RowZ.below hr hbb nL).mono hbb.size) hn;have hc:=(hbb.cell (p:=⟨b,0,none⟩) hb).trans hc;have e0:wb.cell? ⟨W.heap.size,0,none⟩=some (.int .i64 xa):=by rw[hwb];exact aB rfl rfl
 have e1:wb.cell? ⟨W.heap.size,1,none⟩=some (.int .i64 xb):=by rw[hwb];exact aB rfl rfl
 have e2:wb.cell? ⟨W.heap.size,2,none⟩=some (.int .i64 xc):=by rw[hwb];exact aB rfl rfl
 obtain⟨r,hr2⟩:=ex (gI rg ⟨xa,xb,xc⟩);rw[<-hr2]at hcon |-;have HC:Hid (Calls Tryz.prog 36 #[.slice ra M rc,.agg #[.int .i64 xa,.int .i64 xb,.int .i64 xc]] wb fun e w'=>e=.returned (.bool r)/\Below wb.heap.size wb w'):=Hd hcon;have HB:=Hd hbb;have HWB:=Hd hwb;clear hcon hbb hwb hr2 hr;rw[HWB.out]at hc e0 e1 e2;show Calls Tryz.prog 81 #[.agg #[.int .i64 xa,.int .i64 xb,.int .i64 xc],.pointer (some ⟨b,0,none⟩)] W _;go_enter Tryz.func81,Tryz.ntmps81;go_wp2_with fail;rw[<-HWB.out];refine HC.out.mono ?_;rintro e w2 ⟨rfl,hb2⟩;have HB2:=Hd (HB.out.trans (hb2.mono HB.out.size));clear hb2;go_wp2;go_returns;exact⟨rfl,HB2.out⟩
theorem Jv(x y:Ve)(W:World)(b2 b3:Nat)(ea:Option Addr)(EN ec:Nat)(pins:List Pn)(hp:bN W W.heap.size (.slice ea EN ec) pins)(hn:pins.length<=4611686018427387904)(nm:List UInt8)(hb2:b2<W.heap.size)(hb3:b3<W.heap.size)(h2:W.cell? ⟨b2,0,none⟩=some (.slice ea EN ec))(h3:W.cell? ⟨b3,0,none⟩=some (.string (bs nm))):
 Calls Tryz.prog 83 (#[.agg (aI x).toArray,.agg (aI y).toArray]++#[.pointer (some ⟨b2,0,none⟩),.pointer (some ⟨b3,0,none⟩)]) W fun e w'=>e=.returned (.int .i64 (Tn pins nm x y))/\bZ W w':=by
 obtain⟨xa,xb,xc⟩:=x;obtain⟨ya,yb,yc⟩:=y;obtain⟨wb,hwb⟩:=ex ((W.alloc (.cells #[.int .i64 xa,.int .i64 xb,.int .i64 xc] 50)).alloc (.cells #[.int .i64 ya,.int .i64 yb,.int .i64 yc] 50));have hga:bZ W wb:=by rw[hwb];exact((bZ.refl W).alloc _).alloc _
 have hbb:=hga.below;have hsz:wb.heap.size=W.heap.size+2:=by rw[hwb];simp
 have HKEEP:Hid (∀w',bZ wb w'->w'.cell? ⟨b2,0,none⟩=some (.slice ea EN ec)/\w'.cell? ⟨b3,0,none⟩=some (.string (bs nm))/\w'.cell? ⟨W.heap.size,0,none⟩=some (.int .i64 xa)/\w'.cell? ⟨W.heap.size,1,none⟩=some (.int .i64 xb)/\w'.cell? ⟨W.heap.size,2,none⟩=some (.int .i64 xc)/\w'.cell? ⟨W.heap.size+1,0,none⟩=some (.int .i64 ya)/\w'.cell? ⟨W.heap.size+1,1,none⟩=some (.int .i64 yb)/\w'.cell? ⟨W.heap.size+1,2,none⟩=some (.int .i64 yc)):=Hd (fun w' hw'=>by
  have hk:=hw'.below;refine⟨(hk.cell (p:=⟨b2,0,none⟩) (by show b2<_;omega)).trans ((hbb.cell (p:=⟨b2,0,none⟩) hb2).trans h2),(hk.cell (p:=⟨b3,0,none⟩) (by show b3<_;omega)).trans ((hbb.cell (p:=⟨b3,0,none⟩) hb3).trans h3),?_,?_,?_,?_,?_,?_⟩
  ·exact(hk.cell (p:=⟨W.heap.size,0,none⟩) (by show W.heap.size<_;omega)).trans (by rw[hwb];exact(aD (by simp)).trans (aB rfl rfl))
  ·exact(hk.cell (p:=⟨W.heap.size,1,none⟩) (by show W.heap.size<_;omega)).trans (by rw[hwb];exact(aD (by simp)).trans (aB rfl rfl))
  ·exact(hk.cell (p:=⟨W.heap.size,2,none⟩) (by show W.heap.size<_;omega)).trans (by rw[hwb];exact(aD (by simp)).trans (aB rfl rfl))
  ·exact(hk.cell (p:=⟨W.heap.size+1,0,none⟩) (by show W.heap.size+1<_;omega)).trans (by rw[hwb];exact aB (by simp) rfl)
  ·exact(hk.cell (p:=⟨W.heap.size+1,1,none⟩) (by show W.heap.size+1<_;omega)).trans (by rw[hwb];exact aB (by simp) rfl)
  ·exact(hk.cell (p:=⟨W.heap.size+1,2,none⟩) (by show W.heap.size+1<_;omega)).trans (by rw[hwb];exact aB (by simp) rfl))
 have hcon:∀(a b c:Int) W',bZ wb W'->Calls Tryz.prog 85 #[.slice ea EN ec,.agg #[.string (bs nm),.int .i64 a,.int .i64 b,.int .i64 c]] W' fun e w'=>e=.returned (.bool (pinned pins nm ⟨a,b,c⟩))/\bZ W' w':=fun a b c W' hW'=>by
  have hk:=(hga.trans hW').below;have:=wT W' (.slice ea EN ec) pins ⟨nm,⟨a,b,c⟩⟩ ((RowZ.below hp hk nL).mono hk.size) hn;rw[Es]at this;exact this
 obtain⟨py,hpy⟩:=ex (pinned pins nm ⟨ya,yb,yc⟩);obtain⟨px,hpx⟩:=ex (pinned pins nm ⟨xa,xb,xc⟩);have HCY:=Hd (hcon ya yb yc);have HCX:=Hd (hcon xa xb xc);rw[<-hpy]at HCY;rw[<-hpx]at HCX;obtain⟨oy,hoy⟩:=ex (Lt py);obtain⟨ox,hox⟩:=ex (Lt px);have hbd:(0<=oy/\oy<=1)/\(0<=ox/\ox<=1):=by
  rw[hoy,hox];cases py<;>cases px<;>decide
 obtain⟨⟨o1,o2⟩,o3,o4⟩:=hbd;have HOY:=Hd (fun w=>xJ py w);have HOX:=Hd (fun w=>xJ px w);rw[<-hoy]at HOY;rw[<-hox]at HOX;have HF:Tn pins nm ⟨xa,xb,xc⟩ ⟨ya,yb,yc⟩=oy-ox:=by unfold Tn;rw[<-hpy,<-hpx,<-hoy,<-hox]
 rw[HF];have HGA:=Hd hga;have HWB:=Hd hwb;clear hcon hpy hpx hoy hox HF hga hwb hbb hsz hp h2 h3;show Calls Tryz.prog 83 #[.agg #[.int .i64 xa,.int .i64 xb,.int .i64 xc],.agg #[.int .i64 ya,.int .i64 yb,.int .i64 yc],.pointer (some ⟨b2,0,none⟩),.pointer (some ⟨b3,0,none⟩)] W _;go_enter Tryz.func83,Tryz.ntmps83;go_upto_region 1 with fail;rw[<-HWB.out];refine rG (fun w'=>w'.cell? ⟨b2,0,none⟩=some (.slice ea EN ec)/\w'.cell? ⟨b3,0,none⟩=some (.string (bs nm))/\w'.cell? ⟨W.heap.size,0,none⟩=some (.int .i64 xa)/\w'.cell? ⟨W.heap.size,1,none⟩=some (.int .i64 xb)/\w'.cell? ⟨W.heap.size,2,none⟩=some (.int .i64 xc)/\w'.cell? ⟨W.heap.size+1,0,none⟩=some (.int .i64 ya)/\w'.cell? ⟨W.heap.size+1,1,none⟩=some (.int .i64 yb)/\w'.cell? ⟨W.heap.size+1,2,none⟩=some (.int .i64 yc)) (HKEEP.out _ (bZ.refl _).drew) fun hU=>?_;refine aM [0,1,2,3,6,7,8,9] ?_
 refine rd 4 fun K hK=>?_;go_simp;go_at_call 85;refine(HCY.out _ ((bZ.refl _).drew)).mono ?_;rintro e wy ⟨rfl,gwy⟩;refine hK.out _ _ (HKEEP.out _ (((bZ.refl _).drew).trans gwy)) fun hU=>?_;clear hK K;try simp only[lay]
 refine rd 5 fun K hK=>?_;go_simp;go_at_call 84;refine(HOY.out _).mono ?_;rintro e wz ⟨rfl,rfl⟩;refine hK.out _ _ (HKEEP.out _ (((bZ.refl _).drew).trans gwy)) fun hU=>?_;clear hK K;try simp only[lay]
 refine rd 10 fun K hK=>?_;go_simp;go_at_call 85;refine(HCX.out _ (((bZ.refl _).drew).trans gwy)).mono ?_;rintro e wx ⟨rfl,gwx⟩;refine hK.out _ _ (HKEEP.out _ ((((bZ.refl _).drew).trans gwy).trans gwx)) fun hU=>?_;clear hK K;try simp only[lay]
 refine rd 11 fun K hK=>?_;go_simp;go_at_call 84;refine(HOX.out _).mono ?_;rintro e wz ⟨rfl,rfl⟩;refine hK.out _ _ (HKEEP.out _ ((((bZ.refl _).drew).trans gwy).trans gwx)) fun hU=>?_;clear hK K;refine aM [12,13] ?_;refine dN ?_;have HGW:=Hd ((((bZ.refl _).drew).trans gwy).trans gwx);clear hU;go_wp2;go_returns;exact⟨by rcases(show oy=0\/oy=1 by omega)with h | h<;>rcases(show ox=0\/ox=1 by omega)with h' | h'<;>rw[h,h']<;>rfl,HGA.out.trans HGW.out⟩
end
section
open Go.Shelf Go.RowKit Go.Lib Go.Sort
open Top
namespace Top
theorem Fv(l:List Ve)(i u:Nat)(hi:i<l.length)(hu:u<3):(flatK aI 3 l.toArray)[i*3+u]? =(aI l[i])[u]?:=by
 rw[<-Array.getElem?_toList,oW oI,eG oI (by decide) l _ (by omega),show(i*3+u)/3=i by omega,show(i*3+u)%3=u by omega];rw[getElem!_pos l i hi]
theorem VH.holds{w:World}{g:Nat}{l:List Ve}(h:VH w g l):HoldsK aI 3 w g 0 l.toArray:=by
 intro j hj;have hj':j<l.length*3:=by simpa using hj
 have hi:j/3<l.length:=by omega
 have hu:j%3<3:=Nat.mod_lt _ (by decide);have hf:=Fv l (j/3) (j%3) hi hu;have e:j/3*3+j%3=j:=by omega
 rw[e]at hf;refine⟨?_,by rw[Nat.zero_add];exact h.froz j⟩;rw[Nat.zero_add,getElem!_pos _ j hj];rw[Array.getElem?_eq_getElem hj]at hf;obtain⟨c0,c1,c2⟩:=h.cell (j/3) _ (gE hi);show w.cell? _=some (flatK aI 3 l.toArray)[j];rw[hf];rcases(show j%3=0\/j%3=1\/j%3=2 by omega)with h3 | h3 | h3<;>rw[h3]
 ·have:(⟨g,j,none⟩:Addr)=⟨g,j/3*3,none⟩:=by congr 1;omega
  rw[this];exact c0
 ·have:(⟨g,j,none⟩:Addr)=⟨g,j/3*3+1,none⟩:=by congr 1;omega
  rw[this];exact c1
 ·have:(⟨g,j,none⟩:Addr)=⟨g,j/3*3+2,none⟩:=by congr 1;omega
  rw[this];exact c2
theorem Cr{w:World}{g c lo hi n:Nat}{l:List Ve}(h:HoldsK aI 3 w g 0 l.toArray)(h1:lo<=g)(h2:g<hi)(hl:l.length=n)(hc:n<=c):RowI 3 w lo hi (.slice (some ⟨g,0,none⟩) n c) (l.map aI):=by
 refine⟨_,_,by rw[lM,hl],by rw[lM,hl];exact hc,fun i x hx=>⟨g,0,rfl,h1,h2,fun u v hu=>?_⟩⟩;rw[gM]at hx;cases hy:l[i]? with
 | none=>rw[hy]at hx;simp at hx
 | some y=>
  rw[hy]at hx;simp only[Option.map_some,iS]at hx;subst hx;obtain⟨hil,hyy⟩:=gS hy;have hu3:u<3:=by
   have:=(gS hu).1;rw[oI]at this;exact this
  have hf:=Fv l i u hil hu3;rw[hyy,hu]at hf;have hlt:i*3+u<(flatK aI 3 l.toArray).size:=by simp;omega
  have hc2:=(h (i*3+u) hlt).1;rw[getElem!_pos (flatK aI 3 l.toArray) (i*3+u) hlt]at hc2;rw[Array.getElem?_eq_getElem hlt]at hf;have e:(flatK aI 3 l.toArray)[i*3+u]=v:=Option.some.inj hf;rw[show 0+i*3+u=0+(i*3+u) by omega,hc2,e];rfl
theorem tO(C:List Pk)(pins:List Pn)(n:List UInt8)(r:List Sp):(bG C pins n r).length=((aW C n).filter (gI r)).length:=(jA _ _).length_eq
theorem lT(C:List Pk)(n:List UInt8):(aW C n).length<=C.length:=by
 unfold aW;rw[(List.mergeSort_perm _ _).length_eq,lM];exact List.length_filter_le _ _
end Top
theorem Ee(w:World)(a:Option Addr)(c:Nat)(f:Nat)(caps:Array Value)(hen:∀args w,(callFunc f args).run Tryz.prog w=.ok (.enter f args) w):
 Calls Tryz.prog 79 #[.slice a 0 c,.func (.func f) #[] caps] w fun e w'=>e=.returned (.slice a 0 c)/\Below w.heap.size w w':=by
 have hix:=sW w (.slice a 0 c) [] (fun _=>false) f caps hen ⟨a,c,rfl,Nat.zero_le _,fun i x h=>by simp at h⟩ (fun x h=>by simp at h) (by simp) (fun i x h=>by simp at h);have e:aN (fun _=>false) ([]:List (List Value)).length= -1:=rfl;rw[e]at hix;have HIX:=Hd hix;clear hix e;go_enter Tryz.func79,Tryz.ntmps79;go_wp2_with fail;refine HIX.out.mono ?_;rintro e w1 ⟨rfl,hb1⟩;have HB:=Hd hb1;clear hb1;go_wp2;go_returns;exact⟨rfl,HB.out⟩
end
section
open Go.Shelf Go.RowKit Go.Lib Go.Sort
open Top
namespace Top
structure VsLeft(B:Nat)(w:World)(a:Option Addr)(m c:Nat)(F:List Ve):Prop where
 len:F.length=m
 cap:m<=c/\c<=9223372036854775807
 row:0<m->∃g,a=some ⟨g,0,none⟩/\VH w g F/\B<=g/\g<w.heap.size
end Top
theorem vX(w:World)(s b:Nat)(C:List Pk)(h:CatAt w w.heap.size s b C)(nm:List UInt8)(ra:Option Addr)(M rc:Nat)(rg:List Sp)(hr:iH w w.heap.size (.slice ra M rc) rg)(hrn:rg.length<=1000000)(ea:Option Addr)(EN ec:Nat)(pins:List Pn)(hp:bN w w.heap.size (.slice ea EN ec) pins)(hpn:pins.length<=1000000):
 Calls Tryz.prog 37 #[.pointer (some ⟨s,0,none⟩),.string (bs nm),.slice ra M rc,.slice ea EN ec] w fun e w'=>∃a,e=.returned (.slice a (bG C pins nm rg).length (bG C pins nm rg).length)/\Ki w' w.heap.size w'.heap.size (.slice a (bG C pins nm rg).length (bG C pins nm rg).length) (bG C pins nm rg)/\Below w.heap.size w w':=by
 obtain⟨wb,hwb⟩:∃y,y=((w.alloc (.cells #[.string (bs nm)] 9)).alloc (.cells #[.slice ra M rc] 67)).alloc (.cells #[.slice ea EN ec] 26):=⟨_,rfl⟩;have hsb:wb.heap.size=w.heap.size+3:=by rw[hwb];simp
 have hbb:Below w.heap.size w wb:=by rw[hwb];exact(((bR _ w).alloc nL _).alloc (by simp) _).alloc (by simp;omega) _
 have hbox:∀W,Below wb.heap.size wb W->W.cell? ⟨w.heap.size,0,none⟩=some (.string (bs nm))/\W.cell? ⟨w.heap.size+1,0,none⟩=some (.slice ra M rc)/\W.cell? ⟨w.heap.size+2,0,none⟩=some (.slice ea EN ec):=fun W hW=>
  ⟨(hW.cell (p:=⟨w.heap.size,0,none⟩) (by show w.heap.size<_;omega)).trans (by rw[hwb];exact(aD (by simp;omega)).trans ((aD (by simp)).trans (aB rfl rfl))),(hW.cell (p:=⟨w.heap.size+1,0,none⟩) (by show w.heap.size+1<_;omega)).trans (by rw[hwb];exact(aD (by simp)).trans (aB (by simp) rfl)),(hW.cell (p:=⟨w.heap.size+2,0,none⟩) (by show w.heap.size+2<_;omega)).trans (by rw[hwb];exact aB (by simp) rfl)⟩
 have hall:∀W,Below wb.heap.size wb W->Below w.heap.size w W:=fun W hW=>hbb.trans (hW.mono hbb.size);have hvers:=yI wb s b C ((h.below hbb nL).mono hbb.size) nm;obtain⟨vs,hvs⟩:∃x,x=aW C nm:=⟨_,rfl⟩;obtain⟨n,hn⟩:∃x,x=vs.length:=⟨_,rfl⟩;rw[<-hvs,<-hn]at hvers;have hn1:n<=128:=by rw[hn,hvs];have:=lT C nm;have:=h.size;omega
 obtain⟨F,hF⟩:∃x,x=vs.filter (gI rg):=⟨_,rfl⟩;obtain⟨S,hS⟩:∃x,x=bG C pins nm rg:=⟨_,rfl⟩;obtain⟨m,hm⟩:∃x,x=S.length:=⟨_,rfl⟩;have hFm:F.length=m:=by rw[hm,hS,tO,hF,hvs]
 have hm128:m<=128:=by rw[<-hFm,hF];exact Nat.le_trans (List.length_filter_le _ _) (by omega)
 have hSF:S=(Stab.sort (Af pins nm) F.toArray).toList:=by rw[hS,hF,hvs];rfl
 rw[<-hS,<-hm];have HDEL:Hid (∀w1 a c,lK w1 wb.heap.size (.slice a n c) vs->Below wb.heap.size wb w1->Calls Tryz.prog 79 #[.slice a n n,.func (.func 81) #[] #[.pointer (some ⟨w.heap.size+1,0,none⟩)]] w1 fun e w2=>∃a' c',e=.returned (.slice a' m c')/\VsLeft wb.heap.size w2 a' m c' F/\Below wb.heap.size wb w2):=Hd (fun w1 a c hrow hb1=>by
  rcases Nat.eq_zero_or_pos n with h0 | h0
  ·have hv0:vs=[]:=List.length_eq_zero_iff.1 (by omega);have hm0:m=0:=by rw[<-hFm,hF,hv0];rfl
   rw[h0];refine(Ee w1 a 0 _ _ tF).mono ?_;rintro e w2 ⟨rfl,hb2⟩;exact⟨a,0,by rw[hm0],⟨hFm,⟨by omega,by omega⟩,fun h=>absurd h (by omega)⟩,hb1.trans (hb2.mono hb1.size)⟩
  ·have hrow2:=hrow;unfold lK at hrow2;rw[<-hn]at hrow2;obtain⟨g,cap,hg,_,_⟩:=eU hrow2 h0;cases hg;obtain⟨hvh,hg1,hg2⟩:=VH.of_row hrow;refine(Jm w1 g n n vs hvh hn.symm (by omega) nL (by omega) hg2 (fun x=>!gI rg x) _ _ tF (fun x W hW=>?_)).mono ?_
   ·have hbW:Below wb.heap.size wb W:=hb1.grown hW hb1.size (fun k hk=>by cases hk;exact hg1);have hW2:=hall W hbW;exact Jw x W (w.heap.size+1) ra M rc rg ((RowZ.below hr hW2 nL).mono hW2.size) (by omega) (by have:=hbW.size;omega) (hbox W hbW).2.1
   ·rintro e w2 ⟨rfl,hv2,hg3⟩;have hfe:(vs.filter fun x=>!(!gI rg x))=F:=by
     rw[hF];congr 1;funext x;simp
    rw[hfe]at hv2 |-;rw[hFm];refine⟨some ⟨g,0,none⟩,n,rfl,⟨hFm,⟨?_,by omega⟩,fun _=>⟨g,rfl,hv2,hg1,Nat.lt_of_lt_of_le hg2 hg3.size⟩⟩,hb1.grown hg3 hb1.size (fun k hk=>by cases hk;exact hg1)⟩;rw[<-hFm,hF,hn];exact List.length_filter_le _ _)
 have HSORT:Hid (∀w2 a c,VsLeft wb.heap.size w2 a m c F->Below wb.heap.size wb w2->Calls Tryz.prog 82 #[.slice a m c,.func (.func 83) #[] #[.pointer (some ⟨w.heap.size+2,0,none⟩),.pointer (some ⟨w.heap.size,0,none⟩)]] w2 fun e w3=>e=.returned (.tuple #[])/\RowI 3 w3 wb.heap.size w3.heap.size (.slice a m c) (S.map aI)/\Below wb.heap.size wb w3):=Hd (fun w2 a c hl hb2=>by
  rcases Nat.eq_zero_or_pos m with h0 | h0
  ·have hS0:S=[]:=List.length_eq_zero_iff.1 (by omega);rw[h0];refine(pW a c _ w2).mono ?_;rintro e w3 ⟨rfl,rfl⟩;exact⟨rfl,by rw[hS0];exact⟨a,c,rfl,Nat.zero_le _,fun i x h=>by simp at h⟩,hb2⟩
  ·obtain⟨g,rfl,hv,hg1,hg2⟩:=hl.row h0;have hcon:=yQ aI oI Kq (Tn pins nm) 83 #[.pointer (some ⟨w.heap.size+2,0,none⟩),.pointer (some ⟨w.heap.size,0,none⟩)] g c F.toArray w2 Bg (fun q os dk hs x y=>by
    have hgW:w2.grownBy (sortWorldK aI 3 w2 g 0 q dk os) (some g):=iE _;have hbW:Below wb.heap.size wb (sortWorldK aI 3 w2 g 0 q dk os):=hb2.grown hgW hb2.size (fun k hk=>by cases hk;exact hg1);have hW2:=hall _ hbW;exact Jv x y _ (w.heap.size+2) w.heap.size ea EN ec pins ((RowZ.below hp hW2 nL).mono hW2.size) (by omega) nm (by have:=hbW.size;omega) (by have:=hbW.size;omega) (hbox _ hbW).2.2 (hbox _ hbW).1) hv.holds hg2 (by rw[List.size_toArray,hFm];omega)
   rw[List.size_toArray,hl.len,ltP]at hcon;refine hcon.mono ?_;rintro e w3 ⟨rfl,hsw⟩;have hsz:(Stab.sort (Af pins nm) F.toArray).size=F.toArray.size:=by
    have:=congrArg List.length hSF;rw[<-hm]at this;simp at this |-;omega
   have hh:=hsw.holds hg2 hv.holds hsz;have hgw:w2.grownBy w3 (some g):=by
    obtain⟨q,os,rfl⟩:=hsw;exact iE _
   have hS2:Stab.sort (Af pins nm) F.toArray=S.toArray:=by rw[hSF]
   rw[hS2]at hh;exact⟨rfl,Cr hh hg1 (Nat.lt_of_lt_of_le hg2 hgw.size) hm.symm hl.cap.1,hb2.grown hgw hb2.size (fun k hk=>by cases hk;exact hg1)⟩)
 have HVERS:=Hd hvers;have HBOX:=Hd hbox;have HALL:=Hd hall;have HWB:=Hd hwb;have HBB:=Hd hbb;have HSB:=Hd hsb;clear hvers hbox hall hwb hbb hvs hn hF hS hm hFm hSF h hr hp hsb;go_enter Tryz.func37,Tryz.ntmps37;obtain⟨b0,b1,b2⟩:=HBOX.out wb (bR _ _);rw[HWB.out]at b0 b1 b2;go_wp2_with fail;rw[<-HWB.out];refine HVERS.out.mono ?_;rintro e w1 ⟨a,c,rfl,hrow,hb1⟩;have HC1:=Hd (HDEL.out w1 a c hrow hb1);clear b0 b1 b2 hrow hb1;go_wp2_with fail;refine HC1.out.mono ?_;rintro e w2 ⟨a',c',rfl,hl,hb2⟩;have HC2:=Hd (HSORT.out w2 a' c' hl hb2);have HCP:=Hd (fun W=>vV W a' m c' hl.cap.1 hl.cap.2);clear hl hb2;go_wp2_with fail;refine HC2.out.mono ?_;rintro e w3 ⟨rfl,hri,hb3⟩;have HRI:=Hd hri;have HB3:=Hd hb3;clear hri hb3;go_wp2_with fail;refine(HCP.out _).mono ?_;rintro e w4 ⟨rfl,rfl⟩;go_wp2;go_returns;exact⟨a',rfl,(HRI.out.clip).mono (by have:=HSB.out;omega) nL,HALL.out _ HB3.out⟩
end
end Go.Proofs.YtcohlmdnahdnaaaGreatDoor
