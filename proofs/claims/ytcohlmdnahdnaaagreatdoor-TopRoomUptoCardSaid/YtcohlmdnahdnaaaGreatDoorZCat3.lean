/- catalog.New and Get: the walks. -/
import Derived.Test.YtcohlmdnahdnaaaGreatDoorZCatM
import Derived.Test.YtcohlmdnahdnaaaGreatDoorZTopW8
namespace Go.Proofs.YtcohlmdnahdnaaaGreatDoor
open Go.RowKit
set_option linter.unusedVariables false
set_option linter.unusedSimpArgs false
set_option maxHeartbeats 16000000
set_option maxRecDepth 100000
section
open Go.RowKit Go.Maps Go.WideMaps
open Top
theorem Sd:(Tryz.prog.info? 52).map (fun i=>(i.zero,i.size,i.bytes))=some (some (.agg #[.string ByteArray.empty,.int .i64 0,.int .i64 0,.int .i64 0,.slice none 0 0,.slice none 0 0,.slice none 0 0]),7,112):=by kernel_rfl
theorem zJ(w:World)(B s b:Nat)(C:List Pk)(h:CatAt w B s b C)(hB:B<=w.heap.size)(nm:List UInt8)(v:Ve)(hk:nC (nm,v)):
 Calls Tryz.prog 22 #[.pointer (some ⟨s,0,none⟩),.string (bs nm),wM v] w fun e w'=>∃u1 u2 u3,e=.returned (.tuple #[iU ((bY C (nm,v)).getD wP) u1 u2 u3,.bool (bY C (nm,v)).isSome])/\PkOwn w' w.heap.size ((bY C (nm,v)).getD wP) u1 u2 u3/\Below w.heap.size w w':=by
 obtain⟨L,n,hn,hm,he⟩:=h.ents;have hcell:=h.cell;have hs:s<w.heap.size:=by have:=h.sB;omega
 have hb:b<w.heap.size:=by have:=h.bB;omega
 have HM:=Hd hm;have HE:=Hd he;unfold wM;obtain⟨pv,hpv⟩:=ex ((Top.look L (nm,v)).getD (.agg #[.string ByteArray.empty,.int .i64 0,.int .i64 0,.int .i64 0,.slice none 0 0,.slice none 0 0,.slice none 0 0]));obtain⟨fd,hfd⟩:=ex ((Top.look L (nm,v)).isSome);have hEX:∃p d1 d2 d3,(bY C (nm,v)).getD wP=p/\pv=iU p d1 d2 d3/\PkAt w B p d1 d2 d3/\(bY C (nm,v)).isSome=fd/\Om p:=by
  rcases he.look (nm,v)with⟨p,d1,d2,d3,h1,h2,h3⟩ | ⟨h1,h2⟩
  ·refine⟨p,d1,d2,d3,by rw[h1];rfl,by rw[hpv,h2];rfl,h3,by rw[hfd,h1,h2];rfl,(h.pks p (dH h1).1).1⟩
  ·refine⟨wP,.slice none 0 0,.slice none 0 0,.slice none 0 0,by rw[h1];rfl,by rw[hpv,h2];rfl,⟨DpsAt.nil _ _,DpsAt.nil _ _,DpsAt.nil _ _⟩,by rw[hfd,h1,h2];rfl,⟨⟨by decide,fun d hd=>by simp[wP]at hd⟩,⟨by decide,fun d hd=>by simp[wP]at hd⟩,⟨by decide,fun d hd=>by simp[wP]at hd⟩⟩⟩
 obtain⟨p,d1,d2,d3,hp,hpv',hpa,hfd',hsz⟩:=hEX;rw[hp,hfd'];obtain⟨x1,k1,q1⟩:=hpa.deps.form;obtain⟨x2,k2,q2⟩:=hpa.peers.form;obtain⟨x3,k3,q3⟩:=hpa.opts.form;obtain⟨D1,hD1⟩:=ex (p.deps.length);obtain⟨D2,hD2⟩:=ex (p.peers.length);obtain⟨D3,hD3⟩:=ex (p.opts.length);rw[<-hD1]at q1;rw[<-hD2]at q2;rw[<-hD3]at q3;subst q1 q2 q3;clear hD1 hD2 hD3;have HLOOK:Hid (∀w',CMap w' b n L->(Instr.lookup 84 (.map (some b)) (.agg #[.string (bs nm),.int .i64 v.a,.int .i64 v.b,.int .i64 v.c]) true).run Tryz.prog w'=.ok (.tuple #[.agg #[.string (bs p.name),.int .i64 p.v.a,.int .i64 p.v.b,.int .i64 p.v.c,.slice x1 D1 k1,.slice x2 D2 k2,.slice x3 D3 k3],.bool fd]) w'):=Hd (fun w' hw'=>by
  have:=hw'.run_ok (t:=84) (e:=52) Tryz.underlying84 (.agg #[.string ByteArray.empty,.int .i64 0,.int .i64 0,.int .i64 0,.slice none 0 0,.slice none 0 0,.slice none 0 0]) (by kernel_rfl) (nm,v) hk;rw[<-hpv,<-hfd,hpv']at this;exact this)
 have HMW:Hid (CMap ((w.alloc (.cells #[.int .i64 v.a,.int .i64 v.b,.int .i64 v.c] 50)).alloc (.cells #[.string ⟨#[]⟩,.int .i64 0,.int .i64 0,.int .i64 0,.slice none 0 0,.slice none 0 0,.slice none 0 0] 52)).drew b n L):=Hd (hm.below (((bR _ w).alloc nL _).alloc (by simp) _).drew hb);have kA:((w.alloc (.cells #[.int .i64 v.a,.int .i64 v.b,.int .i64 v.c] 50)).alloc (.cells #[.string ⟨#[]⟩,.int .i64 0,.int .i64 0,.int .i64 0,.slice none 0 0,.slice none 0 0,.slice none 0 0] 52)).drew.cell? ⟨s,0,none⟩=some (.map (some b))/\((w.alloc (.cells #[.int .i64 v.a,.int .i64 v.b,.int .i64 v.c] 50)).alloc (.cells #[.string ⟨#[]⟩,.int .i64 0,.int .i64 0,.int .i64 0,.slice none 0 0,.slice none 0 0,.slice none 0 0] 52)).drew.cell? ⟨w.heap.size,0,none⟩=some (.int .i64 v.a)/\((w.alloc (.cells #[.int .i64 v.a,.int .i64 v.b,.int .i64 v.c] 50)).alloc (.cells #[.string ⟨#[]⟩,.int .i64 0,.int .i64 0,.int .i64 0,.slice none 0 0,.slice none 0 0,.slice none 0 0] 52)).drew.cell? ⟨w.heap.size,1,none⟩=some (.int .i64 v.b)/\((w.alloc (.cells #[.int .i64 v.a,.int .i64 v.b,.int .i64 v.c] 50)).alloc (.cells #[.string ⟨#[]⟩,.int .i64 0,.int .i64 0,.int .i64 0,.slice none 0 0,.slice none 0 0,.slice none 0 0] 52)).drew.cell? ⟨w.heap.size,2,none⟩=some (.int .i64 v.c):=by
  refine⟨?_,?_,?_,?_⟩
  ·refine(Below.cell (B:=w.heap.size) (w:=w) (((bR _ w).alloc nL _).alloc (by simp) _).drew (p:=⟨s,0,none⟩) hs).trans hcell
  ·refine(World.cell?_alloc_old _ _ _ (by show w.heap.size≠_;simp)).trans (World.cell?_alloc_at _ _ _ _ rfl)
  ·refine(World.cell?_alloc_old _ _ _ (by show w.heap.size≠_;simp)).trans (World.cell?_alloc_at _ _ _ _ rfl)
  ·refine(World.cell?_alloc_old _ _ _ (by show w.heap.size≠_;simp)).trans (World.cell?_alloc_at _ _ _ _ rfl)
 clear hm he hpv hpv' hfd hfd' hp;go_enter Tryz.func22,Tryz.ntmps22;go_wp2;have HSZ:Hid ((((w.alloc (.cells #[.int .i64 v.a,.int .i64 v.b,.int .i64 v.c] 50)).alloc (.cells #[.string ⟨#[]⟩,.int .i64 0,.int .i64 0,.int .i64 0,.slice none 0 0,.slice none 0 0,.slice none 0 0] 52)).drew).heap.size=w.heap.size+2):=Hd (by show(World.alloc (World.alloc w _) _).heap.size=_;rw[sA,sA]);have kD:∀ob,((((w.alloc (.cells #[.int .i64 v.a,.int .i64 v.b,.int .i64 v.c] 50)).alloc (.cells #[.string ⟨#[]⟩,.int .i64 0,.int .i64 0,.int .i64 0,.slice none 0 0,.slice none 0 0,.slice none 0 0] 52)).drew).alloc ob).cell? ⟨s,0,none⟩=some (.map (some b))/\((((w.alloc (.cells #[.int .i64 v.a,.int .i64 v.b,.int .i64 v.c] 50)).alloc (.cells #[.string ⟨#[]⟩,.int .i64 0,.int .i64 0,.int .i64 0,.slice none 0 0,.slice none 0 0,.slice none 0 0] 52)).drew).alloc ob).cell? ⟨w.heap.size,0,none⟩=some (.int .i64 v.a)/\((((w.alloc (.cells #[.int .i64 v.a,.int .i64 v.b,.int .i64 v.c] 50)).alloc (.cells #[.string ⟨#[]⟩,.int .i64 0,.int .i64 0,.int .i64 0,.slice none 0 0,.slice none 0 0,.slice none 0 0] 52)).drew).alloc ob).cell? ⟨w.heap.size,1,none⟩=some (.int .i64 v.b)/\((((w.alloc (.cells #[.int .i64 v.a,.int .i64 v.b,.int .i64 v.c] 50)).alloc (.cells #[.string ⟨#[]⟩,.int .i64 0,.int .i64 0,.int .i64 0,.slice none 0 0,.slice none 0 0,.slice none 0 0] 52)).drew).alloc ob).cell? ⟨w.heap.size,2,none⟩=some (.int .i64 v.c)/\CMap ((((w.alloc (.cells #[.int .i64 v.a,.int .i64 v.b,.int .i64 v.c] 50)).alloc (.cells #[.string ⟨#[]⟩,.int .i64 0,.int .i64 0,.int .i64 0,.slice none 0 0,.slice none 0 0,.slice none 0 0] 52)).drew).alloc ob) b n L:=fun ob=>
  ⟨(aD (by show s<_;rw[HSZ.out];omega)).trans kA.1,(aD (by show w.heap.size<_;rw[HSZ.out];omega)).trans kA.2.1,(aD (by show w.heap.size<_;rw[HSZ.out];omega)).trans kA.2.2.1,(aD (by show w.heap.size<_;rw[HSZ.out];omega)).trans kA.2.2.2,HMW.out.below ((bR _ _).alloc nL _) (by rw[HSZ.out];omega)⟩
 refine rG (fun w'=>w'.cell? ⟨s,0,none⟩=some (.map (some b))/\w'.cell? ⟨w.heap.size,0,none⟩=some (.int .i64 v.a)/\w'.cell? ⟨w.heap.size,1,none⟩=some (.int .i64 v.b)/\w'.cell? ⟨w.heap.size,2,none⟩=some (.int .i64 v.c)/\CMap w' b n L) ⟨kA.1,kA.2.1,kA.2.2.1,kA.2.2.2,HMW.out⟩ fun hU=>?_;refine aM [0,1,2,3,4,5,6] ?_;refine wpAnyH_take (i:=7) (v:=?vb8) rfl (by kernel_rfl) (by kernel_rfl) (by kernel_rfl) (fun _ _ _ h=>h) (Or.inl ⟨by kernel_rfl,?hyb8⟩) (by assumption) ?restb8;case hyb8=>intro w hSw;(try dsimp only at hSw);have hl:=HLOOK.out w hSw.2.2.2.2;clear hSw;go_simp;(try rw[hl]);(try with_reducible rfl)
 refine aM [8,9,10] ?_;refine rd 11 fun K hK=>?_;go_simp;refine hK.out _ _ (kD _) fun hU=>?_;clear hK K;try simp only[lay]
 refine rd 12 fun K hK=>?_;go_simp;refine hK.out _ _ (kD _) fun hU=>?_;clear hK K;refine aM [13] ?_;refine dN ?_;obtain⟨wd,hwd⟩:=ex (((((w.alloc (.cells #[.int .i64 v.a,.int .i64 v.b,.int .i64 v.c] 50)).alloc (.cells #[.string ⟨#[]⟩,.int .i64 0,.int .i64 0,.int .i64 0,.slice none 0 0,.slice none 0 0,.slice none 0 0] 52)).alloc (.cells #[.string (bs p.name),.int .i64 p.v.a,.int .i64 p.v.b,.int .i64 p.v.c,.slice x1 D1 k1,.slice x2 D2 k2,.slice x3 D3 k3] 52)).drew));rw[<-hwd];have hsd:wd.heap.size=w.heap.size+3:=by rw[hwd];show(World.alloc (World.alloc (World.alloc w _) _) _).heap.size=_;rw[sA,sA,sA]
 have hbd:Below w.heap.size w wd:=by rw[hwd];exact((((bR _ w).alloc nL _).alloc (by simp) _).alloc (by simp;omega) _).drew
 have hd1:wd.heap[w.heap.size+1]? =some (.cells #[.string ⟨#[]⟩,.int .i64 0,.int .i64 0,.int .i64 0,.slice none 0 0,.slice none 0 0,.slice none 0 0] 52 (0,0)):=by
  rw[hwd];refine(heap_alloc_old _ _ (by rw[sA,sA];omega)).trans ?_;have:=heap_alloc_new (w.alloc (.cells #[.int .i64 v.a,.int .i64 v.b,.int .i64 v.c] 50)) (.cells #[.string ⟨#[]⟩,.int .i64 0,.int .i64 0,.int .i64 0,.slice none 0 0,.slice none 0 0,.slice none 0 0] 52);rw[sA]at this;exact this
 have hd2:wd.heap[w.heap.size+2]? =some (.cells #[.string (bs p.name),.int .i64 p.v.a,.int .i64 p.v.b,.int .i64 p.v.c,.slice x1 D1 k1,.slice x2 D2 k2,.slice x3 D3 k3] 52 (0,0)):=by
  rw[hwd];have:=heap_alloc_new ((w.alloc (.cells #[.int .i64 v.a,.int .i64 v.b,.int .i64 v.c] 50)).alloc (.cells #[.string ⟨#[]⟩,.int .i64 0,.int .i64 0,.int .i64 0,.slice none 0 0,.slice none 0 0,.slice none 0 0] 52)) (.cells #[.string (bs p.name),.int .i64 p.v.a,.int .i64 p.v.b,.int .i64 p.v.c,.slice x1 D1 k1,.slice x2 D2 k2,.slice x3 D3 k3] 52);rw[sA,sA]at this;exact this
 have e:=Go.Lib.cell_of_heap hd2;have l0:=e 0;have l1:=e 1;have l2:=e 2;have l3:=e 3;have l4:=e 4;have l5:=e 5;have l6:=e 6;simp only[List.getElem?_toArray,gZ,List.getElem?_cons_succ]at l0 l1 l2 l3 l4 l5 l6;have HCP:=Hd (vR wd p (.slice x1 D1 k1) (.slice x2 D2 k2) (.slice x3 D3 k3) ((hpa.below hbd hB).mono (Nat.le_trans hB hbd.size)) hsz);have HD1:=Hd hd1;have HBD:=Hd hbd;have HSD:=Hd hsd;unfold iU sv at HCP;clear e hd1 hd2 hbd hsd hwd HMW HSZ kA kD hpa h HE HM HLOOK;go_wp2_with fail;refine HCP.out.mono ?_;rintro e w2 ⟨u1,u2,u3,rfl,ho2,hb2⟩;obtain⟨cs1,o1⟩:=ho2.deps;obtain⟨cs2,o2⟩:=ho2.peers;obtain⟨cs3,o3⟩:=ho2.opts;obtain⟨y1,m1,rfl⟩:=aC o1.row;obtain⟨y2,m2,rfl⟩:=aC o2.row;obtain⟨y3,m3,rfl⟩:=aC o3.row;obtain⟨E1,hE1⟩:=ex (p.deps.length);obtain⟨E2,hE2⟩:=ex (p.peers.length);obtain⟨E3,hE3⟩:=ex (p.opts.length)
 rw[<-hE1,<-hE2,<-hE3]at ho2 |-;have hsd:=HSD.out;have hbs2:=hb2.size;have hn2:w2.heap[w.heap.size+1]? =_:=(hb2.block (w.heap.size+1) (by omega)).trans HD1.out;have e:=Go.Lib.cell_of_heap hn2;have r0:=e 0;have r1:=e 1;have r2:=e 2;have r3:=e 3;have r4:=e 4;have r5:=e 5;have r6:=e 6;simp only[List.getElem?_toArray,gZ,List.getElem?_cons_succ]at r0 r1 r2 r3 r4 r5 r6;have q0:=Go.Lib.frozen_of_heap hn2 0;have q1:=Go.Lib.frozen_of_heap hn2 1;have q2:=Go.Lib.frozen_of_heap hn2 2;have q3:=Go.Lib.frozen_of_heap hn2 3;have q4:=Go.Lib.frozen_of_heap hn2 4;have q5:=Go.Lib.frozen_of_heap hn2 5;have q6:=Go.Lib.frozen_of_heap hn2 6;have HO2:=Hd ho2;have HB2:=Hd hb2;clear e hn2 ho2 hb2 o1 o2 o3 hE1 hE2 hE3 l0 l1 l2 l3 l4 l5 l6;go_wp2;have hwy:=aV (w.heap.size+1) [.string (bs p.name),.int .i64 p.v.a,.int .i64 p.v.b,.int .i64 p.v.c,.slice y1 E1 m1,.slice y2 E2 m2,.slice y3 E3 m3] w2 0
 have hwo:=fun j=>dO (w.heap.size+1) [.string (bs p.name),.int .i64 p.v.a,.int .i64 p.v.b,.int .i64 p.v.c,.slice y1 E1 m1,.slice y2 E2 m2,.slice y3 E3 m3] w2 0 j;have hy:=bK (w.heap.size+1) [.string (bs p.name),.int .i64 p.v.a,.int .i64 p.v.b,.int .i64 p.v.c,.slice y1 E1 m1,.slice y2 E2 m2,.slice y3 E3 m3] w2 0 (fun i hi=>by
  match i,hi with
  | 0,_=>exact⟨_,r0⟩
  | 1,_=>exact⟨_,r1⟩
  | 2,_=>exact⟨_,r2⟩
  | 3,_=>exact⟨_,r3⟩
  | 4,_=>exact⟨_,r4⟩
  | 5,_=>exact⟨_,r5⟩
  | 6,_=>exact⟨_,r6⟩)
 have s0:=hy 0 _ rfl;have s1:=hy 1 _ rfl;have s2:=hy 2 _ rfl;have s3:=hy 3 _ rfl;have s4:=hy 4 _ rfl;have s5:=hy 5 _ rfl;have s6:=hy 6 _ rfl;simp only[bI,Nat.zero_add,Nat.reduceAdd]at s0 s1 s2 s3 s4 s5 s6 hwy hwo;try simp only[Exit.inBlock,Exit.then]
 refine bodyPost_ret (by simp[results,Tryz.results22,go_sem,s0,s1,s2,s3,s4,s5,s6];try rfl) rfl ?_;obtain⟨⟨t1,o1⟩,⟨t2,o2⟩,⟨t3,o3⟩⟩:=HO2.out;exact⟨.slice y1 E1 m1,.slice y2 E2 m2,.slice y3 E3 m3,rfl,⟨⟨t1,o1.blocks (fun k hk _=>hwo k (by omega)) (by omega)⟩,⟨t2,o2.blocks (fun k hk _=>hwo k (by omega)) (by omega)⟩,⟨t3,o3.blocks (fun k hk _=>hwo k (by omega)) (by omega)⟩⟩,(HBD.out.trans (HB2.out.mono HBD.out.size)).trans (hwy.mono (by omega))⟩
end
section
open Go.RowKit Go.Maps Go.WideMaps
open Top
namespace Top
def lK(w:World)(B:Nat)(v:Value)(l:List Ve):Prop:=w.ownsRow B 50 3 v l.length (l.flatMap aI)
def kX(lf:Lit->Bool)(rest:List Ky):Prop:=(∀(k:Ky) (kl:Lit),keyOf Tryz.prog 89 (lQ k.1 k.2)=some kl->(lf kl=true↔k∈rest))/\(∀k∈rest,nC k)/\rest.Nodup
theorem kX.start{w:World}{b n:Nat}{L:List (Ky×Value)}(h:CMap w b n L):∃D,w.ownsMap Tryz.prog 89 RV b n D/\kX (Maps.has D) (L.map (·.1)):=by
 obtain⟨⟨D,h1,h2,h3,h4⟩,h5,h6⟩:=h;refine⟨D,h1,fun k kl hk=>?_,h5,h6⟩;rw[(h4 k kl hk).1];exact fG
theorem kX.done{lf:Lit->Bool}{rest:List Ky}(h:kX lf rest)(h0:∀kl,lf kl=false):rest=[]:=by
 cases rest with
 | nil=>rfl
 | cons k r=>
  obtain⟨kl,hkl⟩:=h.2.1 k List.mem_cons_self;have:=(h.1 k kl hkl).2 List.mem_cons_self;rw[h0]at this;simp at this
theorem key_inj{k k':Ky}{kl:Lit}(h:keyOf Tryz.prog 89 (lQ k.1 k.2)=some kl)(h':keyOf Tryz.prog 89 (lQ k'.1 k'.2)=some kl):k=k':=Aw (Ay.inj h h')
theorem kX.step{lf:Lit->Bool}{rest:List Ky}(h:kX lf rest){k:Ky}{kl:Lit}(hk:keyOf Tryz.prog 89 (lQ k.1 k.2)=some kl)(hl:lf kl=true):k∈rest/\kX (fun z=>lf z && !z.sameKey kl) (rest.erase k):=by
 have hm:=(h.1 k kl hk).1 hl;refine⟨hm,fun k' kl' hk'=>?_,fun k' hk'=>h.2.1 k' (List.mem_of_mem_erase hk'),h.2.2.erase k⟩;rw[Bool.and_eq_true,Bool.not_eq_true',h.1 k' kl' hk',h.2.2.mem_erase_iff];constructor
 ·rintro⟨h1,h2⟩;refine⟨fun e=>?_,h1⟩;subst e;rw[hk]at hk';have:kl=kl':=Option.some.inj hk';subst this;rw[WideAt.sameKey_self (Ay.key hk)]at h2;simp at h2
 ·rintro⟨h1,h2⟩;refine⟨h2,?_⟩;cases hs:kl'.sameKey kl with
  | false=>rfl
  | true=>
   have:=WideAt.sameKey_eq hs;subst this;exact absurd (key_inj hk' hk) h1
def cB(nm:List UInt8)(done:List Ky):List Ve:=(done.filter fun k=>k.1==nm).map (·.2)
theorem Cc{nm:List UInt8}{done:List Ky}{k:Ky}(h:k.1=nm):cB nm (done++[k])=cB nm done++[k.2]:=by
 unfold cB;rw[List.filter_append,List.filter_cons_of_pos (by simpa using h),List.map_append];rfl
theorem Gi{nm:List UInt8}{done:List Ky}{k:Ky}(h:¬k.1=nm):cB nm (done++[k])=cB nm done:=by
 unfold cB;rw[List.filter_append,List.filter_cons_of_neg (by simpa using h),List.filter_nil,List.append_nil]
theorem Ce(nm:List UInt8)(done:List Ky):(cB nm done).length<=done.length:=by
 unfold cB;rw[lM];exact List.length_filter_le _ _
theorem Cf{nm:List UInt8}{done:List Ky}{C:List Pk}(h:done.Perm (C.map Pk.key)):lS (cB nm done)=aW C nm:=by
 have:cB nm (C.map Pk.key)=(C.filter fun p=>p.name==nm).map (·.v):=by
  unfold cB;clear h;induction C with
  | nil=>rfl
  | cons p C ih=>
   rw[List.map_cons];by_cases hp:p.name=nm
   ·rw[List.filter_cons_of_pos (a:=p.key) (by simpa using(show p.key.1=nm from hp)),List.filter_cons_of_pos (by simpa using hp),List.map_cons,List.map_cons,ih];rfl
   ·rw[List.filter_cons_of_neg (a:=p.key) (by simpa using(show¬p.key.1=nm from hp)),List.filter_cons_of_neg (by simpa using hp),ih]
 have hp:(cB nm done).Perm (cB nm (C.map Pk.key)):=(h.filter _).map _;rw[Cb hp,this];rfl
theorem Sq:(Tryz.prog.info? 50).map (fun i=>(i.zero,i.size,i.bytes))=some (some (.agg #[.int .i64 0,.int .i64 0,.int .i64 0]),3,24):=by kernel_rfl
end Top
theorem yI(w:World)(s b:Nat)(C:List Pk)(h:CatAt w w.heap.size s b C)(nm:List UInt8):
 Calls Tryz.prog 80 #[.pointer (some ⟨s,0,none⟩),.string (bs nm)] w fun e w'=>∃a c,e=.returned (.slice a (aW C nm).length (aW C nm).length)/\lK w' w.heap.size (.slice a (aW C nm).length c) (aW C nm)/\Below w.heap.size w w':=by
 obtain⟨i0,hi,ha0,ha1,ha2⟩:=info_parts Sq;obtain⟨L,n,hn,hm,he⟩:=h.ents;have hcell:=h.cell;have hs:s<w.heap.size:=h.sB;have hb:b<w.heap.size:=h.bB;have hsz:=h.size;have hkeys:=he.keys;obtain⟨D,hown,hrest⟩:=kX.start hm;obtain⟨keys,hK⟩:∃k,k=L.map (·.1):=⟨_,rfl⟩;rw[<-hK]at hrest hkeys;have hkl:keys.length<=128:=by rw[hkeys,lM];exact hsz
 have HKEYS:=Hd hkeys;have HREST:=Hd hrest;have HKL:=Hd hkl;have HOWN:=Hd hown;clear h hm he hkeys hrest hK hown hsz hkl;go_enter Tryz.func80,Tryz.ntmps80;go_wp2_with (first | (at_range;refine wpList_range_own _ rfl _ 84 rfl 89 52 Ay Tryz.underlying84 RV b n D rfl HOWN.out ?_;intro w1 hrg hg1 hs1));try go_frame
 have HB1:Hid (Below w.heap.size w w1):=Hd ((bR _ _).grown hg1 nL (fun j hj=>by cases hj));have HRG1:=Hd hrg;have HS1:=Hd hs1;clear hrg hg1 hs1;go_loopw [5] (fun x wr=>∃(lf:Lit->Bool) (cnt:Nat) (done rest:List Ky) (q:Nat) (ao:Option Addr) (co:Nat),x=.slice ao q co/\q=(cB nm done).length/\wr.ranges Tryz.prog 89 RV b w.heap.size n D lf cnt/\kX lf rest/\(done++rest).Perm keys/\lK wr (w.heap.size+1) (.slice ao q co) (cB nm done)/\Below w.heap.size w wr/\w.heap.size+1<=wr.heap.size) (fun _ wr=>wr.rangeLeft b w.heap.size);case atStart=>exact⟨_,_,[],keys,0,none,0,rfl,rfl,HRG1.out,HREST.out,List.Perm.refl _,World.ownsRow_nil _ _ _ _,HB1.out,by have:=HS1.out;omega⟩
 case round=>
  clear HRG1 HB1 HS1;obtain⟨wo,rfl⟩:∃x,x=wr:=⟨wr,rfl⟩;obtain⟨lf,cnt,done,rest,q,ao,co,rfl,hq,hrg2,hro,hperm,hrow,hBr,hsz⟩:=hrel;have hq2:q<=128:=by
   rw[hq];have h1:=Ce nm done;have h2:=hperm.length_eq;rw[lA]at h2;have:=HKL.out;omega
  have HQ:=Hd hq;have HRG:=Hd hrg2;have HRO:=Hd hro;have HPERM:=Hd hperm;have HROW:=Hd hrow;have HBR:=Hd hBr;clear hq hrg2 hro hperm hrow hBr;go_wp2_with (first | (at_next;refine wpList_next_ranges _ rfl _ rfl 89 Ay RV (fun k:Ky=> .agg #[.string (bs k.1),.int .i64 k.2.a,.int .i64 k.2.b,.int .i64 k.2.c]) (fun v:Value=>v) (fun key kl hk=>by obtain⟨a,v,e⟩:=Ip hk;exact⟨(a,v),e⟩) (fun v y _=>⟨v,rfl⟩) b w.heap.size n D lf cnt rfl HRG.out ?_ ?_))
  ·intro hc0 hno;have HF:Hid (lS (cB nm done)=aW C nm):=Hd (Cf (by
    have h1:=HRO.out.done hno;have h2:=HPERM.out;rw[h1,List.append_nil,HKEYS.out]at h2;exact h2))
   have hrow:=HROW.out;unfold lK at hrow;have hsort:=Jh hrow (by have:=HQ.out;omega);have HSO:=Hd hsort;have hcap:q<=co/\co<=9223372036854775807:=by
    rw[<-HQ.out]at hrow;rcases hrow.2 with⟨h1,h2⟩ | ⟨g,cap,cur,h1,_,_,h3,h4,_⟩
    ·cases h1;exact⟨by omega,by omega⟩
    ·cases h1;unfold maxLen at h4;exact⟨h3,by omega⟩
   have HCP:=Hd (fun W=>vV W ao q co hcap.1 hcap.2);clear hno hc0 hrow hsort hcap;go_wp2_with fail;refine HSO.out.mono ?_;rintro e w2 ⟨rfl,hr2,hg2⟩;have HR2:=Hd hr2;have HB2:=Hd (HBR.out.grown hg2 HBR.out.size (fun g hg=>by have:=(World.ownsRow.lt HROW.out g hg).1;omega));clear hr2 hg2;go_wp2_with fail;refine(HCP.out _).mono ?_;rintro e w6 ⟨rfl,rfl⟩;go_wp2;go_returns;have hl:(aW C nm).length=q:=by rw[<-HF.out,nH,<-HQ.out]
   have hr:=HR2.out;rw[HF.out,hl]at hr;exact⟨ao,co,by rw[hl];rfl,by unfold lK;rw[hl];exact dI hr (by omega),HB2.out⟩
  ·intro kn vv c kl y1 y2 w4 cnt1 hkk hlk hRV hat hrg4 hlt hg4 hs4 hen;obtain⟨va,vb,vc⟩:=vv;obtain⟨hmem,hro4⟩:=HRO.out.step (k:=(kn,⟨va,vb,vc⟩)) hkk hlk;have HPERM4:Hid ((done++[((kn,⟨va,vb,vc⟩):Ky)]++rest.erase ((kn,⟨va,vb,vc⟩):Ky)).Perm keys):=Hd (by
    rw[List.append_assoc];exact((List.perm_cons_erase hmem).symm.append_left done).trans HPERM.out)
   have HRO4:=Hd hro4;have HLT:=Hd hlt;have HRG4:=Hd hrg4;have HB4:=Hd (HBR.out.grown hg4 HBR.out.size (fun j hj=>by cases hj;exact nL));have HROW4:Hid (lK w4 (w.heap.size+1) (.slice ao q co) (cB nm done)):=Hd (World.ownsRow.kept HROW.out hg4 (by
    cases ho:(Value.slice ao q co).ownBlock with
    | none=>exact Or.inl rfl
    | some g=>exact Or.inr (fun e=>by have:=(World.ownsRow.lt HROW.out g ho).1;have:=Option.some.inj e;omega)))
   have hz4:w.heap.size+1<=w4.heap.size:=by omega
   have HR4K:Hid (w4.ownsRow (w.heap.size+1) 50 3 (.slice ao q co) q ((cB nm done).flatMap aI)):=Hd (by have:=HROW4.out;unfold lK at this;rwa[<-HQ.out]at this);dsimp only at hen;have HS4:=Hd hs4;clear hkk hlk hRV hat hrg4 hlt hg4 hs4 hmem hro4;by_cases hnm:kn=nm
   ·have HT:Hid (cB nm (done++[(kn,⟨va,vb,vc⟩)])=cB nm done++[⟨va,vb,vc⟩]):=Hd (Cc hnm);have hq1:((bs kn).toList==(bs nm).toList)=true:=by rw[aA,aA];simpa using hnm
    have hq2':(bs kn).toList=(bs nm).toList:=by rw[aA,aA];exact hnm
    clear hnm;go_wp2_with (at_builtin;refine wpList_append_lies _ rfl _ _ 63 rfl (w.heap.size+1) 50 i0 (.agg #[.int .i64 0,.int .i64 0,.int .i64 0]) 3 24 Tryz.underlying63 hi ha0 ha1 ha2 rfl (by decide) (.slice ao q co) q _ rfl ((HR4K.out.alloc _).alloc _) ⟨w4.heap.size+1,0,none⟩ 1 1 [.int .i64 va,.int .i64 vb,.int .i64 vc] rfl rfl (fun j u hu=>World.news_of_block (cs:=#[.int .i64 va,.int .i64 vb,.int .i64 vc]) (t:=50) (fr:=(0,0)) (by have:=heap_alloc_new (w4.alloc (.cells #[.string (bs kn),.int .i64 va,.int .i64 vb,.int .i64 vc] 89)) (.cells #[.int .i64 va,.int .i64 vb,.int .i64 vc] 50);rw[sA]at this;exact this) j u hu) (by simp[Value.oneCell']) (by omega) (by unfold maxLen;omega) (by omega) (by simp;omega) _ rfl ?_;intro g8 c8 w8 hown8 hgrow8 hat8 hlt8);have hnb:∀g,(Value.slice ao q co).ownBlock=some g->w.heap.size+1<=g:=fun g hg=>(World.ownsRow.lt HROW4.out g hg).1
    have HRG8:=Hd (((HRG4.out.alloc (.cells #[.string (bs kn),.int .i64 va,.int .i64 vb,.int .i64 vc] 89)).alloc (.cells #[.int .i64 va,.int .i64 vb,.int .i64 vc] 50)).kept hgrow8 (fun e=>by have:=hnb b e.symm;omega) (fun e=>by have:=hnb w.heap.size e.symm;omega));have HB8:=Hd (((HB4.out.alloc (by omega) (.cells #[.string (bs kn),.int .i64 va,.int .i64 vb,.int .i64 vc] 89)).alloc (by simp;omega) (.cells #[.int .i64 va,.int .i64 vb,.int .i64 vc] 50)).grown hgrow8 (by simp;omega) (fun g hg=>by have:=hnb g hg;omega));have HV8:Hid (lK w8 (w.heap.size+1) (.slice (some ⟨g8,0,none⟩) (q+1) c8) (cB nm (done++[((kn,⟨va,vb,vc⟩):Ky)]))):=Hd (by
     unfold lK;rw[HT.out,lA,List.length_singleton,List.flatMap_append,<-HQ.out];exact hown8)
    have hz8:=hgrow8.size;rw[sA,sA]at hz8;clear hown8 hgrow8 hat8 hlt8 hnb;go_roundw;case rel=>exact⟨_,cnt1,_,_,q+1,some ⟨g8,0,none⟩,c8,rfl,by rw[HT.out,lA,<-HQ.out];rfl,HRG8.out,HRO4.out,HPERM4.out,HV8.out,HB8.out,by omega⟩
    case measure=>rw[HRG8.out.left_eq,HRG.out.left_eq];exact HLT.out
   ·have HT:Hid (cB nm (done++[(kn,⟨va,vb,vc⟩)])=cB nm done):=Hd (Gi hnm);have hq1:((bs kn).toList==(bs nm).toList)=false:=by rw[aA,aA];simpa using hnm
    have hq2':¬(bs kn).toList=(bs nm).toList:=by rw[aA,aA];exact hnm
    clear hnm;go_wp2;go_roundw;case rel=>exact⟨_,cnt1,_,_,q,ao,co,rfl,by rw[HT.out];exact HQ.out,HRG4.out.alloc _,HRO4.out,HPERM4.out,by rw[HT.out];exact World.ownsRow.alloc HROW4.out _,HB4.out.alloc (by omega) _,by simp;omega⟩
    case measure=>rw[(HRG4.out.alloc _).left_eq,HRG.out.left_eq];exact HLT.out
end
end Go.Proofs.YtcohlmdnahdnaaaGreatDoor
