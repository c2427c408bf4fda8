/- The stable sort's walks, at wants. -/
import Derived.Test.YtcohlmdnahdnaaaGreatDoorZStW1
namespace Go.Proofs.YtcohlmdnahdnaaaGreatDoor
open Go.RowKit
set_option linter.unusedVariables false
set_option linter.unusedSimpArgs false
set_option maxHeartbeats 16000000
section
open Go.Shelf Go.RowKit Go.Lib Go.Sort
open Top
set_option maxRecDepth 1000000 in
theorem oJ{P:Program}{α:Type}[Inhabited α](k:Nat)(L:StT P 69 60 175 k)(hFS:P.funcs[218]? =some Tryz.f218)(enc:α->List Value)(fv:Value)(blk off cap a b n:Nat)(d0 d:Array α)(w0 w:World)
 (R:RowK enc k w0 blk off d0)(hs:d0.size=d.size)(S:SWK enc k w0 blk off d w)(ha:a+n<=d.size)(hb:b+n<=d.size)(hsz:d.size<1099511627776):
 Calls P 218 #[.slice (some ⟨blk,off,none⟩) d.size cap,.int .i64 a,.int .i64 b,.int .i64 n,fv] w fun e w'=>e=.returned (.tuple #[])/\SWK enc k w0 blk off (Stab.bC a b n 0 d) w':=by
 have mixed:=L.mixed;have t0:=L.t0;have a0:=L.a0;have z0:=L.z0;have v0:=L.v0;have t3:=L.t3;have a3:=L.a3;have z3:=L.z3;have v3:=L.v3;have t4:=L.t4;have a4:=L.a4;have z4:=L.z4;have v4:=L.v4;have tu:=L.tu;have au:=L.au;have zu:=L.zu;have vu:=L.vu;have tS:=L.tS;have aS:=L.aS;have zS:=L.zS;have vS:=L.vS;have tf:=L.tf;have af:=L.af;have zf:=L.zf;have vf:=L.vf;have aE:=L.aE;have zE:=L.zE
 have u0:=run_underlying L.t0;have u3:=run_underlying L.t3;have u4:=run_underlying L.t4;have uu:=run_underlying L.tu;have us:=run_underlying L.tS;have uf:=run_underlying L.tf
 have S0:Aside (SWK enc k w0 blk off d w):=S;clear S;go_enter hFS,Tryz.ntmps218;go_wp2;go_loopg [10] n (fun kx s10 wr=>∃(i:Nat) (dk:Array α),s10=.int .i64 i/\i<=n/\n-i<=kx/\dk.size=d.size/\Aside (SWK enc k w0 blk off dk wr)/\Hid (Stab.bC a b n i dk=Stab.bC a b n 0 d));case atStart=>exact⟨0,d,rfl,by omega,by omega,rfl,S0,rfl⟩
 case round=>
  clear S0;obtain⟨i,dk,rfl,hin,hkx,hds,S1,HEQ⟩:=hrel;by_cases hlt:i<n
  ·have hltz:(i:Int)<(n:Int):=by omega
   go_wp2_with fail;have ea44:((a:Int)+(i:Int)).toNat=a+i:=by omega
   have pa44:(0:Int)<=(a:Int)+(i:Int):=by omega
   have ba44:(a:Int)+(i:Int)<(d.size:Int):=by omega
   have ra44:IntKind.i64.wrap ((a:Int)+(i:Int))=(a:Int)+(i:Int):=by rw[IntKind.wrap_i64];omega
   have ec44:((b:Int)+(i:Int)).toNat=b+i:=by omega
   have pc44:(0:Int)<=(b:Int)+(i:Int):=by omega
   have bc44:(b:Int)+(i:Int)<(d.size:Int):=by omega
   have rc44:IntKind.i64.wrap ((b:Int)+(i:Int))=(b:Int)+(i:Int):=by rw[IntKind.wrap_i64];omega
   have S2:Aside (SWK enc k w0 blk off (swp dk (a+i) (b+i)) ((wr.drew.setCells blk (off+(a+i)*k) (enc dk[b+i]!)).setCells blk (off+(b+i)*k) (enc dk[a+i]!))):=S1.out.swapped R (a+i) (b+i) (by omega) (by omega);have l44a:=S1.out.ld1 R (by omega) P (a+i) (by omega);have l44b:=S1.out.ld1 R (by omega) P (b+i) (by omega);have s44a:=S1.out.st1 R (by omega) P (a+i) (by omega) dk[b+i]!;have s44b:=S1.out.st2 R (by omega) P (a+i) (b+i) (by omega) (by omega) dk[b+i]! dk[a+i]!;have n44a:(enc dk[a+i]!).length=k:=R.hk _;have n44b:(enc dk[b+i]!).length=k:=R.hk _;generalize enc dk[a+i]! =cI44 at S2 l44a s44b n44a;generalize enc dk[b+i]! =cJ44 at S2 l44b s44a s44b n44b;clear S1;go_wp2_with fail;go_big_region_o;clear l44a l44b s44a s44b;generalize (wr.drew.setCells blk (off+(a+i)*k) cJ44).setCells blk (off+(b+i)*k) cI44=w2 at S2 |-
   go_wp2;go_roundg (n-(i+1));case measure=>omega
   case rel=>
    have HEQ2:Hid (Stab.bC a b n (i+1) (swp dk (a+i) (b+i))=Stab.bC a b n 0 d):=Hd (by
     have:=HEQ.out;rw[Stab.bC,if_pos hlt]at this;exact this)
    exact⟨i+1,swp dk (a+i) (b+i),by go_num,by omega,nL,by rw[size_swp];exact hds,S2,HEQ2⟩
  ·go_wp2;go_end0;refine⟨rfl,?_⟩;have:=HEQ.out;rw[Stab.bC,if_neg hlt]at this;rw[<-this];exact S1.out
set_option maxRecDepth 1000000 in
theorem Ha{P:Program}{α:Type}[Inhabited α](k:Nat)(L:StT P 69 60 175 k)(hFS:P.funcs[218]? =some Tryz.f218)(FR:P.funcs[206]? =some Tryz.f206)(enc:α->List Value)(fv:Value)(blk off cap a m b:Nat)(d0 d:Array α)(w0 w:World)
 (R:RowK enc k w0 blk off d0)(hs:d0.size=d.size)(S:SWK enc k w0 blk off d w)(ham:a<m)(hmb:m<b)(hb:b<=d.size)(hsz:d.size<1099511627776):
 Calls P 206 #[.slice (some ⟨blk,off,none⟩) d.size cap,.int .i64 a,.int .i64 m,.int .i64 b,fv] w fun e w'=>e=.returned (.tuple #[])/\SWK enc k w0 blk off (Stab.jZ m (m-a) (b-m) d) w':=by
 have mixed:=L.mixed;have t0:=L.t0;have a0:=L.a0;have z0:=L.z0;have v0:=L.v0;have t3:=L.t3;have a3:=L.a3;have z3:=L.z3;have v3:=L.v3;have t4:=L.t4;have a4:=L.a4;have z4:=L.z4;have v4:=L.v4;have tu:=L.tu;have au:=L.au;have zu:=L.zu;have vu:=L.vu;have tS:=L.tS;have aS:=L.aS;have zS:=L.zS;have vS:=L.vS;have tf:=L.tf;have af:=L.af;have zf:=L.zf;have vf:=L.vf;have aE:=L.aE;have zE:=L.zE
 have u0:=run_underlying L.t0;have u3:=run_underlying L.t3;have u4:=run_underlying L.t4;have uu:=run_underlying L.tu;have us:=run_underlying L.tS;have uf:=run_underlying L.tf
 have S0:Aside (SWK enc k w0 blk off d w):=S;have eS:∀args w,(callFunc 218 args).run P w=.ok (.enter 218 args) w:=enters_of hFS (by kernel_rfl) rfl;clear S;go_enter FR,Tryz.ntmps206;go_wp2;go_loopg [10,11] (b-a) (fun kx s10 s11 wr=>∃(i j:Nat) (dk:Array α),s10=.int .i64 i/\s11=.int .i64 j/\0<i/\0<j/\i<=m/\m+j<=b/\i+j<=kx/\dk.size=d.size/\Aside (SWK enc k w0 blk off dk wr)/\Hid (Stab.jZ m i j dk=Stab.jZ m (m-a) (b-m) d));case atStart=>exact⟨m-a,b-m,d,by first | go_num | (congr 1;omega),by first | go_num | (congr 1;omega),by omega,by omega,by omega,by omega,by omega,rfl,S0,rfl⟩
 case round=>
  clear S0;obtain⟨i,j,dk,rfl,rfl,hi0,hj0,him,hjb,hkx,hds,S1,HEQ⟩:=hrel;by_cases hij:i=j
  ·subst hij;have HF:Hid (Stab.bC (m-i) m i 0 dk=Stab.jZ m (m-a) (b-m) d):=Hd (by
    have:=HEQ.out;rw[Stab.jZ,if_neg (by omega),if_pos rfl]at this;exact this)
   have q1:((i:Int)==(i:Int))=true:=by simp
   have q2:((i:Int) !=(i:Int))=false:=by simp
   have hcS2:=oJ k L hFS enc fv blk off cap (m-i) (m) (i) d0 dk w0 wr R (by omega) S1.out (by omega) (by omega) (by omega);rw[hds]at hcS2;have HCS2:=Hd hcS2;clear hcS2;have qa:((m-i:Nat):Int)=(m:Int)-(i:Int):=by omega
   rw[qa]at HCS2;clear qa;go_wp2_with (go_at_fn 218;refine HCS2.out.mono ?_;rintro e w2 ⟨rfl,S2⟩;have S2':Aside _:=S2;clear S2);go_end0;refine⟨rfl,?_⟩;rw[<-HF.out];exact S2'.out
  ·have q1:((i:Int)==(j:Int))=false:=by rw[beq_eq_false_iff_ne];omega
   have q2:((i:Int) !=(j:Int))=true:=by rw[bne_iff_ne];omega
   have q3:¬(i:Int)=(j:Int):=by omega
   by_cases hji:j<i
   ·have HF:Hid (Stab.jZ m (i-j) j (Stab.bC (m-i) m j 0 dk)=Stab.jZ m (m-a) (b-m) d):=Hd (by
     have:=HEQ.out;rw[Stab.jZ,if_neg (by omega),if_neg hij,if_pos hji]at this;exact this)
    have hjz:(j:Int)<(i:Int):=by omega
    have hcS2:=oJ k L hFS enc fv blk off cap (m-i) (m) (j) d0 dk w0 wr R (by omega) S1.out (by omega) (by omega) (by omega);rw[hds]at hcS2;have HCS2:=Hd hcS2;clear hcS2;have qa:((m-i:Nat):Int)=(m:Int)-(i:Int):=by omega
    rw[qa]at HCS2;have HSZ:Hid ((Stab.bC (m-i) m j 0 dk).size=d.size):=Hd (by rw[(Stab.dY (m-i) m j _ 0 dk rfl (by omega) (by omega)).1];exact hds);clear qa;go_wp2_with (go_at_fn 218;refine HCS2.out.mono ?_;rintro e w2 ⟨rfl,S2⟩;have S2':Aside _:=S2;clear S2);go_roundg (i-j+j);case measure=>omega
    case rel=>exact⟨i-j,j,Stab.bC (m-i) m j 0 dk,by first | go_num | (congr 1;omega),rfl,by omega,hj0,by omega,by omega,nL,HSZ.out,S2',HF⟩
   ·have HF:Hid (Stab.jZ m i (j-i) (Stab.bC (m-i) (m+j-i) i 0 dk)=Stab.jZ m (m-a) (b-m) d):=Hd (by
     have:=HEQ.out;rw[Stab.jZ,if_neg (by omega),if_neg hij,if_neg hji]at this;exact this)
    have hjz:¬(j:Int)<(i:Int):=by omega
    have hcS2:=oJ k L hFS enc fv blk off cap (m-i) (m+j-i) (i) d0 dk w0 wr R (by omega) S1.out (by omega) (by omega) (by omega);rw[hds]at hcS2;have HCS2:=Hd hcS2;clear hcS2;have qa:((m-i:Nat):Int)=(m:Int)-(i:Int):=by omega
    have qb:((m+j-i:Nat):Int)=(m:Int)+(j:Int)-(i:Int):=by omega
    rw[qa,qb]at HCS2;have HSZ:Hid ((Stab.bC (m-i) (m+j-i) i 0 dk).size=d.size):=Hd (by rw[(Stab.dY (m-i) (m+j-i) i _ 0 dk rfl (by omega) (by omega)).1];exact hds);clear qa qb;go_wp2_with (go_at_fn 218;refine HCS2.out.mono ?_;rintro e w2 ⟨rfl,S2⟩;have S2':Aside _:=S2;clear S2);go_roundg (i+(j-i));case measure=>omega
    case rel=>exact⟨i,j-i,Stab.bC (m-i) (m+j-i) i 0 dk,rfl,by first | go_num | (congr 1;omega),hi0,by omega,by omega,by omega,nL,HSZ.out,S2',HF⟩
set_option maxRecDepth 1000000 in
theorem Gn{P:Program}{α:Type}[Inhabited α](k:Nat)(L:StT P 69 60 175 k)(hFS:P.funcs[218]? =some Tryz.f218)(FR:P.funcs[206]? =some Tryz.f206)(FM:P.funcs[183]? =some Tryz.f183)(enc:α->List Value)(cf:α->α->Int)(g:Nat)(cb:Array Value)(blk off cap:Nat)(d0:Array α)(w0:World)
 (eg:∀args w,(callFunc g args).run P w=.ok (.enter g args) w)(hcmp:CmpLays P g cb enc k cf blk off d0.size w0)(R:RowK enc k w0 blk off d0):
 ∀(f a m b:Nat) (d:Array α) (w:World),b-a<=f->a<m->m<b->b<=d.size->d0.size=d.size->SWK enc k w0 blk off d w->d.size<1099511627776->
 Calls P 183 #[.slice (some ⟨blk,off,none⟩) d.size cap,.int .i64 a,.int .i64 m,.int .i64 b,.func (.func g) #[] cb] w fun e w'=>e=.returned (.tuple #[])/\SWK enc k w0 blk off (Stab.dP (ltOf cf) f a m b d) w':=by
 have mixed:=L.mixed;have t0:=L.t0;have a0:=L.a0;have z0:=L.z0;have v0:=L.v0;have t3:=L.t3;have a3:=L.a3;have z3:=L.z3;have v3:=L.v3;have t4:=L.t4;have a4:=L.a4;have z4:=L.z4;have v4:=L.v4;have tu:=L.tu;have au:=L.au;have zu:=L.zu;have vu:=L.vu;have tS:=L.tS;have aS:=L.aS;have zS:=L.zS;have vS:=L.vS;have tf:=L.tf;have af:=L.af;have zf:=L.zf;have vf:=L.vf;have aE:=L.aE;have zE:=L.zE
 have u0:=run_underlying L.t0;have u3:=run_underlying L.t3;have u4:=run_underlying L.t4;have uu:=run_underlying L.tu;have us:=run_underlying L.tS;have uf:=run_underlying L.tf
 have HC:Aside _:=hcmp;have eR:∀args w,(callFunc 206 args).run P w=.ok (.enter 206 args) w:=enters_of FR (by kernel_rfl) rfl;have eM:∀args w,(callFunc 183 args).run P w=.ok (.enter 183 args) w:=enters_of FM (by kernel_rfl) rfl;clear hcmp;intro f;induction f with
 | zero=>intro a m b d w hf ham hmb;omega
 | succ f ih=>
  intro a m b d w hf ham hmb hb hs S hsz
  have IH:Hid (∀(a m b:Nat) (d:Array α) (w:World),b-a<=f->a<m->m<b->b<=d.size->d0.size=d.size->SWK enc k w0 blk off d w->
   Calls P 183 #[.slice (some ⟨blk,off,none⟩) d.size cap,.int .i64 a,.int .i64 m,.int .i64 b,.func (.func g) #[] cb] w fun e w'=>e=.returned (.tuple #[])/\SWK enc k w0 blk off (Stab.dP (ltOf cf) f a m b d) w'):=Hd (fun a m b d' w h1 h2 h3 h4 h5 h6=>ih a m b d' w h1 h2 h3 h4 h5 h6 (by omega))
  clear ih;have S0:Aside (SWK enc k w0 blk off d w):=S;clear S;have r1:IntKind.i64.wrap ((m:Int)-(a:Int))=(m:Int)-(a:Int):=by rw[IntKind.wrap_i64];omega
  by_cases hm:m=a+1
  ·have q1:((m:Int)-(a:Int)==1)=true:=by rw[beq_iff_eq];omega
   have HMA:=Hd hm;clear hm;go_enter FM,Tryz.ntmps183;go_wp2;go_loopg [10,11] (b-m) (fun kx s1 s2 wr=>∃(i j:Nat),s1=.int .i64 i/\s2=.int .i64 j/\m<=i/\i<=j/\j<=b/\j-i<=kx/\Aside (SWK enc k w0 blk off d wr)/\Hid (Stab.half (fun h=>(ltOf cf) d[h]! d[a]!) i j=Stab.half (fun h=>(ltOf cf) d[h]! d[a]!) m b));case atStart=>exact⟨m,b,rfl,rfl,by omega,by omega,by omega,by omega,S0,rfl⟩
   case round=>
    clear S0;obtain⟨i,j,rfl,rfl,hi0,hij,hj0,hkx,S1,HEQ⟩:=hrel;by_cases hlt:i<j
    ·have hltz:(i:Int)<(j:Int):=by omega
     cases hL:(ltOf cf) d[(i+j)/2]! d[a]! with
     | true=>
      have HUP:Hid (Stab.half (fun h=>(ltOf cf) d[h]! d[a]!) ((i+j)/2+1) j=Stab.half (fun h=>(ltOf cf) d[h]! d[a]!) m b):=Hd (by
       have:=HEQ.out;rw[Stab.half,if_pos hlt]at this;have hv:((ltOf cf) d[(i+j)/2]! d[a]!)=true:=by
        rw[hL]
       rw[if_pos hv]at this;exact this)
      have ea40:(((i:Int)+(j:Int))/2).toNat=(i+j)/2:=by omega
      have pa40:(0:Int)<=((i:Int)+(j:Int))/2:=by omega
      have ba40:((i:Int)+(j:Int))/2<(d.size:Int):=by omega
      have ra40:IntKind.i64.wrap (((i:Int)+(j:Int))/2)=((i:Int)+(j:Int))/2:=by rw[IntKind.wrap_i64];omega
      have ec40:((a:Int)).toNat=a:=by omega
      have pc40:(0:Int)<=(a:Int):=by omega
      have bc40:(a:Int)<(d.size:Int):=by omega
      have rc40:IntKind.i64.wrap ((a:Int))=(a:Int):=by rw[IntKind.wrap_i64];omega
      obtain⟨x40,hx40⟩:∃x,x=d[(i+j)/2]!:=⟨_,rfl⟩;obtain⟨y40,hy40⟩:∃x,x=d[a]!:=⟨_,rfl⟩;have l40a:=S1.out.ld R (by omega) P ((i+j)/2) (by omega);have l40b:=S1.out.ld R (by omega) P (a) (by omega);rw[<-hx40]at l40a;rw[<-hy40]at l40b;have hc40:=S1.out.cmp HC.out (by omega) x40 y40;have hv40:cf x40 y40<0:=by rw[hx40,hy40];exact of_decide_eq_true hL
      have hd40:decide (cf x40 y40<0)=true:=decide_eq_true hv40;clear hx40 hy40;go_wp2_with fail;go_quiet_grown (first | (go_at_fn g;refine Calls.grown_of (hc40 _ _)));have S2:Aside (SWK enc k w0 blk off d (grow (wr.drewN nq) osq)):=S1.out.grown nq osq;clear l40a l40b hc40 S1;generalize grow (wr.drewN nq) osq=w2 at S2 |-;clear nq osq;go_wp2;go_roundg (j-((i+j)/2+1));case measure=>omega
      case rel=>exact⟨(i+j)/2+1,j,by rw[show((i:Int)+(j:Int))/2+1=(((i+j)/2+1:Nat):Int) by omega],rfl,by omega,by omega,by omega,nL,S2,HUP⟩
     | false=>
      have HUP:Hid (Stab.half (fun h=>(ltOf cf) d[h]! d[a]!) i ((i+j)/2)=Stab.half (fun h=>(ltOf cf) d[h]! d[a]!) m b):=Hd (by
       have:=HEQ.out;rw[Stab.half,if_pos hlt]at this;have hv:((ltOf cf) d[(i+j)/2]! d[a]!)=false:=by
        rw[hL]
       rw[if_neg (by rw[hv];exact Bool.false_ne_true)]at this;exact this)
      have ea40:(((i:Int)+(j:Int))/2).toNat=(i+j)/2:=by omega
      have pa40:(0:Int)<=((i:Int)+(j:Int))/2:=by omega
      have ba40:((i:Int)+(j:Int))/2<(d.size:Int):=by omega
      have ra40:IntKind.i64.wrap (((i:Int)+(j:Int))/2)=((i:Int)+(j:Int))/2:=by rw[IntKind.wrap_i64];omega
      have ec40:((a:Int)).toNat=a:=by omega
      have pc40:(0:Int)<=(a:Int):=by omega
      have bc40:(a:Int)<(d.size:Int):=by omega
      have rc40:IntKind.i64.wrap ((a:Int))=(a:Int):=by rw[IntKind.wrap_i64];omega
      obtain⟨x40,hx40⟩:∃x,x=d[(i+j)/2]!:=⟨_,rfl⟩;obtain⟨y40,hy40⟩:∃x,x=d[a]!:=⟨_,rfl⟩;have l40a:=S1.out.ld R (by omega) P ((i+j)/2) (by omega);have l40b:=S1.out.ld R (by omega) P (a) (by omega);rw[<-hx40]at l40a;rw[<-hy40]at l40b;have hc40:=S1.out.cmp HC.out (by omega) x40 y40;have hv40:¬cf x40 y40<0:=by rw[hx40,hy40];exact of_decide_eq_false hL
      have hd40:decide (cf x40 y40<0)=false:=decide_eq_false hv40;clear hx40 hy40;go_wp2_with fail;go_quiet_grown (first | (go_at_fn g;refine Calls.grown_of (hc40 _ _)));have S2:Aside (SWK enc k w0 blk off d (grow (wr.drewN nq) osq)):=S1.out.grown nq osq;clear l40a l40b hc40 S1;generalize grow (wr.drewN nq) osq=w2 at S2 |-;clear nq osq;go_wp2;go_roundg ((i+j)/2-i);case measure=>omega
      case rel=>exact⟨i,(i+j)/2,rfl,by rw[show((i:Int)+(j:Int))/2=(((i+j)/2:Nat):Int) by omega],by omega,by omega,by omega,nL,S2,HUP⟩
    ·have hltz:¬(i:Int)<(j:Int):=by omega
     have HS:Hid (i=Stab.half (fun h=>(ltOf cf) d[h]! d[a]!) m b):=Hd (by
      have:=HEQ.out;rw[Stab.half,if_neg hlt]at this;exact this)
     go_wp2;go_loopg [13] (i-a) (fun kx s1 wr=>∃(q:Nat) (dk:Array α),s1=.int .i64 q/\a<=q/\i-q<=kx/\dk.size=d.size/\Aside (SWK enc k w0 blk off dk wr)/\Hid (Stab.upTo i q dk=Stab.upTo i a d));case atStart=>exact⟨a,d,rfl,nL,nL,rfl,S1,rfl⟩
     case round=>
      clear S1;obtain⟨q,dk,rfl,hq0,hkx,hds,S1,HQ⟩:=hrel;by_cases hq:q+1<i
      ·have hqz:(q:Int)<(i:Int)-1:=by omega
       have ea61:((q:Int)).toNat=q:=by omega
       have pa61:(0:Int)<=(q:Int):=by omega
       have ba61:(q:Int)<(d.size:Int):=by omega
       have ra61:IntKind.i64.wrap ((q:Int))=(q:Int):=by rw[IntKind.wrap_i64];omega
       have ec61:((q:Int)+1).toNat=q+1:=by omega
       have pc61:(0:Int)<=(q:Int)+1:=by omega
       have bc61:(q:Int)+1<(d.size:Int):=by omega
       have rc61:IntKind.i64.wrap ((q:Int)+1)=(q:Int)+1:=by rw[IntKind.wrap_i64];omega
       have S2:Aside (SWK enc k w0 blk off (swp dk (q) (q+1)) ((wr.drew.setCells blk (off+(q)*k) (enc dk[q+1]!)).setCells blk (off+(q+1)*k) (enc dk[q]!))):=S1.out.swapped R (q) (q+1) (by omega) (by omega);have l61a:=S1.out.ld1 R (by omega) P (q) (by omega);have l61b:=S1.out.ld1 R (by omega) P (q+1) (by omega);have s61a:=S1.out.st1 R (by omega) P (q) (by omega) dk[q+1]!;have s61b:=S1.out.st2 R (by omega) P (q) (q+1) (by omega) (by omega) dk[q+1]! dk[q]!;have n61a:(enc dk[q]!).length=k:=R.hk _;have n61b:(enc dk[q+1]!).length=k:=R.hk _;generalize enc dk[q]! =cI61 at S2 l61a s61b n61a;generalize enc dk[q+1]! =cJ61 at S2 l61b s61a s61b n61b;clear S1;go_wp2_with fail;go_big_region_o;clear l61a l61b s61a s61b;generalize (wr.drew.setCells blk (off+(q)*k) cJ61).setCells blk (off+(q+1)*k) cI61=w2 at S2 |-;go_wp2;go_roundg (i-(q+1))
       case measure=>omega
       case rel=>
        have HQ2:Hid (Stab.upTo i (q+1) (swp dk q (q+1))=Stab.upTo i a d):=Hd (by
         have:=HQ.out;rw[Stab.upTo,if_pos hq]at this;exact this)
        exact⟨q+1,swp dk q (q+1),by go_num,by omega,nL,by rw[size_swp];exact hds,S2,HQ2⟩
      ·have hqz:¬(q:Int)<(i:Int)-1:=by omega
       go_wp2
       (first | go_end0 | ((try simp only[Exit.inBlock,Exit.then]);refine bodyPost_ret (results_none rfl _ _ _) rfl ?_))
       refine⟨rfl,?_⟩;have:=HQ.out;rw[Stab.upTo,if_neg hq]at this;rw[Stab.dP,if_pos HMA.out,<-HS.out,<-this];exact S1.out
  ·have q1:((m:Int)-(a:Int)==1)=false:=by rw[beq_eq_false_iff_ne];omega
   have q1':¬(m:Int)-(a:Int)=1:=by omega
   by_cases hb1:b=m+1
   ·have q2:((b:Int)-(m:Int)==1)=true:=by rw[beq_iff_eq];omega
    have HBM:=Hd hb1;clear hb1;go_enter FM,Tryz.ntmps183;go_wp2;go_loopg [14,15] (m-a) (fun kx s1 s2 wr=>∃(i j:Nat),s1=.int .i64 i/\s2=.int .i64 j/\a<=i/\i<=j/\j<=m/\j-i<=kx/\Aside (SWK enc k w0 blk off d wr)/\Hid (Stab.half (fun h=>!(ltOf cf) d[m]! d[h]!) i j=Stab.half (fun h=>!(ltOf cf) d[m]! d[h]!) a m));case atStart=>exact⟨a,m,rfl,rfl,by omega,by omega,by omega,by omega,S0,rfl⟩
    case round=>
     clear S0;obtain⟨i,j,rfl,rfl,hi0,hij,hj0,hkx,S1,HEQ⟩:=hrel;by_cases hlt:i<j
     ·have hltz:(i:Int)<(j:Int):=by omega
      cases hL:(ltOf cf) d[m]! d[(i+j)/2]! with
      | true=>
       have HUP:Hid (Stab.half (fun h=>!(ltOf cf) d[m]! d[h]!) i ((i+j)/2)=Stab.half (fun h=>!(ltOf cf) d[m]! d[h]!) a m):=Hd (by
        have:=HEQ.out;rw[Stab.half,if_pos hlt]at this;have hv:(!(ltOf cf) d[m]! d[(i+j)/2]!)=false:=by
         rw[hL];rfl
        rw[if_neg (by rw[hv];exact Bool.false_ne_true)]at this;exact this)
       have ea41:((m:Int)).toNat=m:=by omega
       have pa41:(0:Int)<=(m:Int):=by omega
       have ba41:(m:Int)<(d.size:Int):=by omega
       have ra41:IntKind.i64.wrap ((m:Int))=(m:Int):=by rw[IntKind.wrap_i64];omega
       have ec41:(((i:Int)+(j:Int))/2).toNat=(i+j)/2:=by omega
       have pc41:(0:Int)<=((i:Int)+(j:Int))/2:=by omega
       have bc41:((i:Int)+(j:Int))/2<(d.size:Int):=by omega
       have rc41:IntKind.i64.wrap (((i:Int)+(j:Int))/2)=((i:Int)+(j:Int))/2:=by rw[IntKind.wrap_i64];omega
       obtain⟨x41,hx41⟩:∃x,x=d[m]!:=⟨_,rfl⟩;obtain⟨y41,hy41⟩:∃x,x=d[(i+j)/2]!:=⟨_,rfl⟩;have l41a:=S1.out.ld R (by omega) P (m) (by omega);have l41b:=S1.out.ld R (by omega) P ((i+j)/2) (by omega);rw[<-hx41]at l41a;rw[<-hy41]at l41b;have hc41:=S1.out.cmp HC.out (by omega) x41 y41;have hv41:cf x41 y41<0:=by rw[hx41,hy41];exact of_decide_eq_true hL
       have hd41:decide (cf x41 y41<0)=true:=decide_eq_true hv41;clear hx41 hy41;go_wp2_with fail;go_quiet_grown (first | (go_at_fn g;refine Calls.grown_of (hc41 _ _)));have S2:Aside (SWK enc k w0 blk off d (grow (wr.drewN nq) osq)):=S1.out.grown nq osq;clear l41a l41b hc41 S1;generalize grow (wr.drewN nq) osq=w2 at S2 |-;clear nq osq;go_wp2;go_roundg ((i+j)/2-i);case measure=>omega
       case rel=>exact⟨i,(i+j)/2,rfl,by rw[show((i:Int)+(j:Int))/2=(((i+j)/2:Nat):Int) by omega],by omega,by omega,by omega,nL,S2,HUP⟩
      | false=>
       have HUP:Hid (Stab.half (fun h=>!(ltOf cf) d[m]! d[h]!) ((i+j)/2+1) j=Stab.half (fun h=>!(ltOf cf) d[m]! d[h]!) a m):=Hd (by
        have:=HEQ.out;rw[Stab.half,if_pos hlt]at this;have hv:(!(ltOf cf) d[m]! d[(i+j)/2]!)=true:=by
         rw[hL];rfl
        rw[if_pos hv]at this;exact this)
       have ea41:((m:Int)).toNat=m:=by omega
       have pa41:(0:Int)<=(m:Int):=by omega
       have ba41:(m:Int)<(d.size:Int):=by omega
       have ra41:IntKind.i64.wrap ((m:Int))=(m:Int):=by rw[IntKind.wrap_i64];omega
       have ec41:(((i:Int)+(j:Int))/2).toNat=(i+j)/2:=by omega
       have pc41:(0:Int)<=((i:Int)+(j:Int))/2:=by omega
       have bc41:((i:Int)+(j:Int))/2<(d.size:Int):=by omega
       have rc41:IntKind.i64.wrap (((i:Int)+(j:Int))/2)=((i:Int)+(j:Int))/2:=by rw[IntKind.wrap_i64];omega
       obtain⟨x41,hx41⟩:∃x,x=d[m]!:=⟨_,rfl⟩;obtain⟨y41,hy41⟩:∃x,x=d[(i+j)/2]!:=⟨_,rfl⟩;have l41a:=S1.out.ld R (by omega) P (m) (by omega);have l41b:=S1.out.ld R (by omega) P ((i+j)/2) (by omega);rw[<-hx41]at l41a;rw[<-hy41]at l41b;have hc41:=S1.out.cmp HC.out (by omega) x41 y41;have hv41:¬cf x41 y41<0:=by rw[hx41,hy41];exact of_decide_eq_false hL
       have hd41:decide (cf x41 y41<0)=false:=decide_eq_false hv41;clear hx41 hy41;go_wp2_with fail;go_quiet_grown (first | (go_at_fn g;refine Calls.grown_of (hc41 _ _)));have S2:Aside (SWK enc k w0 blk off d (grow (wr.drewN nq) osq)):=S1.out.grown nq osq;clear l41a l41b hc41 S1;generalize grow (wr.drewN nq) osq=w2 at S2 |-;clear nq osq;go_wp2;go_roundg (j-((i+j)/2+1));case measure=>omega
       case rel=>exact⟨(i+j)/2+1,j,by rw[show((i:Int)+(j:Int))/2+1=(((i+j)/2+1:Nat):Int) by omega],rfl,by omega,by omega,by omega,nL,S2,HUP⟩
     ·have hltz:¬(i:Int)<(j:Int):=by omega
      have HS:Hid (i=Stab.half (fun h=>!(ltOf cf) d[m]! d[h]!) a m):=Hd (by
       have:=HEQ.out;rw[Stab.half,if_neg hlt]at this;exact this)
      go_wp2;go_loopg [17] (m-i) (fun kx s1 wr=>∃(q:Nat) (dk:Array α),s1=.int .i64 q/\q<=m/\q-i<=kx/\dk.size=d.size/\Aside (SWK enc k w0 blk off dk wr)/\Hid (Stab.dC i q dk=Stab.dC i m d));case atStart=>exact⟨m,d,rfl,nL,nL,rfl,S1,rfl⟩
      case round=>
       clear S1;obtain⟨q,dk,rfl,hq0,hkx,hds,S1,HQ⟩:=hrel;by_cases hq:i<q
       ·have hqz:(i:Int)<(q:Int):=by omega
        have ea61:((q:Int)).toNat=q:=by omega
        have pa61:(0:Int)<=(q:Int):=by omega
        have ba61:(q:Int)<(d.size:Int):=by omega
        have ra61:IntKind.i64.wrap ((q:Int))=(q:Int):=by rw[IntKind.wrap_i64];omega
        have ec61:((q:Int)-1).toNat=q-1:=by omega
        have pc61:(0:Int)<=(q:Int)-1:=by omega
        have bc61:(q:Int)-1<(d.size:Int):=by omega
        have rc61:IntKind.i64.wrap ((q:Int)-1)=(q:Int)-1:=by rw[IntKind.wrap_i64];omega
        have S2:Aside (SWK enc k w0 blk off (swp dk (q) (q-1)) ((wr.drew.setCells blk (off+(q)*k) (enc dk[q-1]!)).setCells blk (off+(q-1)*k) (enc dk[q]!))):=S1.out.swapped R (q) (q-1) (by omega) (by omega);have l61a:=S1.out.ld1 R (by omega) P (q) (by omega);have l61b:=S1.out.ld1 R (by omega) P (q-1) (by omega);have s61a:=S1.out.st1 R (by omega) P (q) (by omega) dk[q-1]!;have s61b:=S1.out.st2 R (by omega) P (q) (q-1) (by omega) (by omega) dk[q-1]! dk[q]!;have n61a:(enc dk[q]!).length=k:=R.hk _;have n61b:(enc dk[q-1]!).length=k:=R.hk _;generalize enc dk[q]! =cI61 at S2 l61a s61b n61a;generalize enc dk[q-1]! =cJ61 at S2 l61b s61a s61b n61b;clear S1;go_wp2_with fail;go_big_region_o;clear l61a l61b s61a s61b;generalize (wr.drew.setCells blk (off+(q)*k) cJ61).setCells blk (off+(q-1)*k) cI61=w2 at S2 |-;go_wp2;go_roundg (q-1-i)
        case measure=>omega
        case rel=>
         have HQ2:Hid (Stab.dC i (q-1) (swp dk q (q-1))=Stab.dC i m d):=Hd (by
          have:=HQ.out;rw[Stab.dC,if_pos hq]at this;exact this)
         exact⟨q-1,swp dk q (q-1),by first | go_num | (congr 1;omega),by omega,nL,by rw[size_swp];exact hds,S2,HQ2⟩
       ·have hqz:¬(i:Int)<(q:Int):=by omega
        go_wp2
        (first | go_end0 | ((try simp only[Exit.inBlock,Exit.then]);refine bodyPost_ret (results_none rfl _ _ _) rfl ?_))
        refine⟨rfl,?_⟩;have:=HQ.out;rw[Stab.dC,if_neg hq]at this;rw[Stab.dP,if_neg hm,if_pos HBM.out,<-HS.out,<-this];exact S1.out
   ·have q2:((b:Int)-(m:Int)==1)=false:=by rw[beq_eq_false_iff_ne];omega
    have q2':¬(b:Int)-(m:Int)=1:=by omega
    go_enter FM,Tryz.ntmps183;obtain⟨s0,hs0⟩:∃x,x=if(a+b)/2<m then(a+b)/2+m-b else a:=⟨_,rfl⟩
    obtain⟨r0,hr0⟩:∃x,x=if(a+b)/2<m then(a+b)/2 else m:=⟨_,rfl⟩
    have HST0:Hid (Stab.half (fun c=>!(ltOf cf) d[(a+b)/2+m-1-c]! d[c]!) s0 r0=Stab.start (ltOf cf) d a m b):=Hd (by
     unfold Stab.start;rw[hs0,hr0];split<;>rfl)
    have hs0':a<=s0/\s0<=r0/\r0<=m/\r0<=(a+b)/2/\((a+b)/2+m-b<=s0):=by
     rw[hs0,hr0];split<;>omega
    have HS0:=Hd hs0;have HR0:=Hd hr0;obtain⟨k1,k2,k3,k4,k5⟩:=hs0';clear hs0 hr0;go_upto_if 140 with fail;go_cut [20,21]from 138 (fun s20 s21 wc=>s20=.int .i64 s0/\s21=.int .i64 r0/\Aside (SWK enc k w0 blk off d wc))
    case first=>
     by_cases g1:(a+b)/2<m
     ·have g1z:((a:Int)+(b:Int))/2<(m:Int):=by omega
      go_wp2_with fail;go_meet;case rel=>exact⟨by rw[HS0.out,if_pos g1];first | go_num | (congr 1;omega),by rw[HR0.out,if_pos g1];first | go_num | (congr 1;omega),S0⟩
     ·have g1z:¬((a:Int)+(b:Int))/2<(m:Int):=by omega
      go_wp2_with fail;go_meet;case rel=>exact⟨by rw[HS0.out,if_neg g1],by rw[HR0.out,if_neg g1],S0⟩
    case rest=>
     obtain⟨rfl,rfl,S0⟩:=hcut;obtain⟨wx,rfl⟩:∃x,x=wc:=⟨wc,rfl⟩;go_wp2_with fail;go_loopg [20,21] (r0-s0) (fun kx s1 s2 wr=>∃(i j:Nat),s1=.int .i64 i/\s2=.int .i64 j/\s0<=i/\i<=j/\j<=r0/\j-i<=kx/\Aside (SWK enc k w0 blk off d wr)/\Hid (Stab.half (fun c=>!(ltOf cf) d[(a+b)/2+m-1-c]! d[c]!) i j=Stab.half (fun c=>!(ltOf cf) d[(a+b)/2+m-1-c]! d[c]!) s0 r0));case atStart=>exact⟨s0,r0,rfl,rfl,by omega,by omega,by omega,by omega,S0,rfl⟩
     case round=>
      clear S0;obtain⟨i,j,rfl,rfl,hi0,hij,hj0,hkx,S1,HEQ⟩:=hrel;by_cases hlt:i<j
      ·have hltz:(i:Int)<(j:Int):=by omega
       cases hL:(ltOf cf) d[(a+b)/2+m-1-(i+j)/2]! d[(i+j)/2]! with
       | true=>
        have HUP:Hid (Stab.half (fun c=>!(ltOf cf) d[(a+b)/2+m-1-c]! d[c]!) i ((i+j)/2)=Stab.half (fun c=>!(ltOf cf) d[(a+b)/2+m-1-c]! d[c]!) s0 r0):=Hd (by
         have:=HEQ.out;rw[Stab.half,if_pos hlt]at this;have hv:(!(ltOf cf) d[(a+b)/2+m-1-(i+j)/2]! d[(i+j)/2]!)=false:=by
          rw[hL];rfl
         rw[if_neg (by rw[hv];exact Bool.false_ne_true)]at this;exact this)
        have u42:((i:Int)+(j:Int))/2<=((a:Int)+(b:Int))/2+(m:Int)-1:=by omega
        have u43:((i:Int)+(j:Int))/2<((a:Int)+(b:Int))/2+(m:Int):=by omega
        have ea42:(((a:Int)+(b:Int))/2+(m:Int)-1-((i:Int)+(j:Int))/2).toNat=(a+b)/2+m-1-(i+j)/2:=by omega
        have pa42:(0:Int)<=((a:Int)+(b:Int))/2+(m:Int)-1-((i:Int)+(j:Int))/2:=by omega
        have ba42:((a:Int)+(b:Int))/2+(m:Int)-1-((i:Int)+(j:Int))/2<(d.size:Int):=by omega
        have ra42:IntKind.i64.wrap (((a:Int)+(b:Int))/2+(m:Int)-1-((i:Int)+(j:Int))/2)=((a:Int)+(b:Int))/2+(m:Int)-1-((i:Int)+(j:Int))/2:=by rw[IntKind.wrap_i64];omega
        have ec42:(((i:Int)+(j:Int))/2).toNat=(i+j)/2:=by omega
        have pc42:(0:Int)<=((i:Int)+(j:Int))/2:=by omega
        have bc42:((i:Int)+(j:Int))/2<(d.size:Int):=by omega
        have rc42:IntKind.i64.wrap (((i:Int)+(j:Int))/2)=((i:Int)+(j:Int))/2:=by rw[IntKind.wrap_i64];omega
        obtain⟨x42,hx42⟩:∃x,x=d[(a+b)/2+m-1-(i+j)/2]!:=⟨_,rfl⟩;obtain⟨y42,hy42⟩:∃x,x=d[(i+j)/2]!:=⟨_,rfl⟩;have l42a:=S1.out.ld R (by omega) P ((a+b)/2+m-1-(i+j)/2) (by omega);have l42b:=S1.out.ld R (by omega) P ((i+j)/2) (by omega);rw[<-hx42]at l42a;rw[<-hy42]at l42b;have hc42:=S1.out.cmp HC.out (by omega) x42 y42;have hv42:cf x42 y42<0:=by rw[hx42,hy42];exact of_decide_eq_true hL
        have hd42:decide (cf x42 y42<0)=true:=decide_eq_true hv42;clear hx42 hy42;go_wp2_with fail;go_quiet_grown (first | (go_at_fn g;refine Calls.grown_of (hc42 _ _)));have S2:Aside (SWK enc k w0 blk off d (grow (wr.drewN nq) osq)):=S1.out.grown nq osq;clear l42a l42b hc42 S1;generalize grow (wr.drewN nq) osq=w2 at S2 |-;clear nq osq;go_wp2;go_roundg ((i+j)/2-i);case measure=>omega
        case rel=>exact⟨i,(i+j)/2,rfl,by rw[show((i:Int)+(j:Int))/2=(((i+j)/2:Nat):Int) by omega],by omega,by omega,by omega,nL,S2,HUP⟩
       | false=>
        have HUP:Hid (Stab.half (fun c=>!(ltOf cf) d[(a+b)/2+m-1-c]! d[c]!) ((i+j)/2+1) j=Stab.half (fun c=>!(ltOf cf) d[(a+b)/2+m-1-c]! d[c]!) s0 r0):=Hd (by
         have:=HEQ.out;rw[Stab.half,if_pos hlt]at this;have hv:(!(ltOf cf) d[(a+b)/2+m-1-(i+j)/2]! d[(i+j)/2]!)=true:=by
          rw[hL];rfl
         rw[if_pos hv]at this;exact this)
        have u42:((i:Int)+(j:Int))/2<=((a:Int)+(b:Int))/2+(m:Int)-1:=by omega
        have u43:((i:Int)+(j:Int))/2<((a:Int)+(b:Int))/2+(m:Int):=by omega
        have ea42:(((a:Int)+(b:Int))/2+(m:Int)-1-((i:Int)+(j:Int))/2).toNat=(a+b)/2+m-1-(i+j)/2:=by omega
        have pa42:(0:Int)<=((a:Int)+(b:Int))/2+(m:Int)-1-((i:Int)+(j:Int))/2:=by omega
        have ba42:((a:Int)+(b:Int))/2+(m:Int)-1-((i:Int)+(j:Int))/2<(d.size:Int):=by omega
        have ra42:IntKind.i64.wrap (((a:Int)+(b:Int))/2+(m:Int)-1-((i:Int)+(j:Int))/2)=((a:Int)+(b:Int))/2+(m:Int)-1-((i:Int)+(j:Int))/2:=by rw[IntKind.wrap_i64];omega
        have ec42:(((i:Int)+(j:Int))/2).toNat=(i+j)/2:=by omega
        have pc42:(0:Int)<=((i:Int)+(j:Int))/2:=by omega
        have bc42:((i:Int)+(j:Int))/2<(d.size:Int):=by omega
        have rc42:IntKind.i64.wrap (((i:Int)+(j:Int))/2)=((i:Int)+(j:Int))/2:=by rw[IntKind.wrap_i64];omega
        obtain⟨x42,hx42⟩:∃x,x=d[(a+b)/2+m-1-(i+j)/2]!:=⟨_,rfl⟩;obtain⟨y42,hy42⟩:∃x,x=d[(i+j)/2]!:=⟨_,rfl⟩;have l42a:=S1.out.ld R (by omega) P ((a+b)/2+m-1-(i+j)/2) (by omega);have l42b:=S1.out.ld R (by omega) P ((i+j)/2) (by omega);rw[<-hx42]at l42a;rw[<-hy42]at l42b;have hc42:=S1.out.cmp HC.out (by omega) x42 y42;have hv42:¬cf x42 y42<0:=by rw[hx42,hy42];exact of_decide_eq_false hL
        have hd42:decide (cf x42 y42<0)=false:=decide_eq_false hv42;clear hx42 hy42;go_wp2_with fail;go_quiet_grown (first | (go_at_fn g;refine Calls.grown_of (hc42 _ _)));have S2:Aside (SWK enc k w0 blk off d (grow (wr.drewN nq) osq)):=S1.out.grown nq osq;clear l42a l42b hc42 S1;generalize grow (wr.drewN nq) osq=w2 at S2 |-;clear nq osq;go_wp2;go_roundg (j-((i+j)/2+1));case measure=>omega
        case rel=>exact⟨(i+j)/2+1,j,by rw[show((i:Int)+(j:Int))/2+1=(((i+j)/2+1:Nat):Int) by omega],rfl,by omega,by omega,by omega,nL,S2,HUP⟩
      ·have hltz:¬(i:Int)<(j:Int):=by omega
       have HS:Hid (i=Stab.half (fun c=>!(ltOf cf) d[(a+b)/2+m-1-c]! d[c]!) s0 r0):=Hd (by
        have:=HEQ.out;rw[Stab.half,if_neg hlt]at this;exact this)
       have HST:Hid (i=Stab.start (ltOf cf) d a m b):=Hd (HS.out.trans HST0.out);obtain⟨hst,hsmid,hsm,hem,hemid,heb⟩:=Stab.uO (ltOf cf) (d:=d) ham hmb;rw[<-HST.out]at hst hsmid hsm hem hemid heb;obtain⟨e,hee⟩:∃e,e=(a+b)/2+m-i:=⟨_,rfl⟩;rw[<-hee]at hem hemid heb;have HE:=Hd hee;have qe:(e:Int)=((a:Int)+(b:Int))/2+(m:Int)-(i:Int):=by omega
       have HQE:=Hd qe;have he0:0<=((a:Int)+(b:Int))/2+(m:Int)-(i:Int):=by omega
       have he1:((a:Int)+(b:Int))/2+(m:Int)-(i:Int)<1099511627776:=by omega
       obtain⟨d1,hd1⟩:∃x,x=(if i<m/\m<e then Stab.jZ m (m-i) (e-m) d else d):=⟨_,rfl⟩;have hk1:Stab.Same d d1:=by
        rw[hd1];split
        ·exact Stab.lZ m _ _ _ d nL (by omega) (by omega)
        ·exact Stab.Same.refl d
       obtain⟨d2,hd2⟩:∃x,x=(if a<i/\i<(a+b)/2 then Stab.dP (ltOf cf) f a i ((a+b)/2) d1 else d1):=⟨_,rfl⟩;have hk2:Stab.Same d d2:=by
        rw[hd2];split
        ·rename_i hc
         exact hk1.trans (Stab.fE (ltOf cf) f a i _ d1 hc.1 hc.2 (by rw[hk1.1];omega))
        ·exact hk1
       have HFIN:Hid (Stab.dP (ltOf cf) (f+1) a m b d=if(a+b)/2<e/\e<b then Stab.dP (ltOf cf) f ((a+b)/2) e b d2 else d2):=Hd (by
        rw[Stab.dP,if_neg hm,if_neg hb1,<-HST.out];dsimp only;rw[<-hee,<-hd1,<-hd2])
       have HD1:=Hd hd1;have HD2:=Hd hd2;have hz1:=hk1.1;have hz2:=hk2.1;have HZ1:=Hd hz1;have HZ2:=Hd hz2;clear hee hd1 hd2 hk1 hk2 HEQ hz1 hz2 qe;obtain⟨b1,hbb1⟩:∃x,x=decide (i<m/\m<e):=⟨_,rfl⟩;obtain⟨b2,hbb2⟩:∃x,x=decide (a<i/\i<(a+b)/2):=⟨_,rfl⟩;obtain⟨b3,hbb3⟩:∃x,x=decide ((a+b)/2<e/\e<b):=⟨_,rfl⟩;have HB1:=Hd hbb1;have HB2:=Hd hbb2;have HB3:=Hd hbb3;clear hbb1 hbb2 hbb3;go_upto_region 39 with fail;go_cut [185]from 178 (fun s185 wc=>s185=.bool b1/\Aside (SWK enc k w0 blk off d wc))
       case first=>
        by_cases g1:i<m
        ·have g1z:(i:Int)<(m:Int):=by omega
         by_cases g2:m<e
         ·have g2z:(m:Int)<((a:Int)+(b:Int))/2+(m:Int)-(i:Int):=by have:=HQE.out;omega
          go_wp2_with fail;go_meet;case rel=>exact⟨by rw[HB1.out,decide_eq_true (show i<m/\m<e from⟨g1,g2⟩)],S1⟩
         ·have g2z:¬(m:Int)<((a:Int)+(b:Int))/2+(m:Int)-(i:Int):=by have:=HQE.out;omega
          go_wp2_with fail;go_meet;case rel=>exact⟨by rw[HB1.out,decide_eq_false (show¬(i<m/\m<e)from fun h=>g2 h.2)],S1⟩
        ·have g1z:¬(i:Int)<(m:Int):=by omega
         go_wp2_with fail;go_meet;case rel=>exact⟨by rw[HB1.out,decide_eq_false (show¬(i<m/\m<e)from fun h=>g1 h.1)],S1⟩
       case rest=>
        obtain⟨rfl,T1⟩:=hcut;clear S1;go_upto_if 185 with fail;go_cut []from 178 (fun wc=>Aside (SWK enc k w0 blk off d1 wc))
        case first=>
         cases hb1v:b1
         ·subst hb1v;go_wp2_with fail;go_meet;case rel=>
           have:d1=d:=by
            rw[HD1.out,if_neg (of_decide_eq_false HB1.out.symm)]
           rw[this];exact T1
         ·subst hb1v;have hcc:i<m/\m<e:=of_decide_eq_true HB1.out.symm;have hcr:=Ha k L hFS FR enc (.func (.func g) #[] cb) blk off cap i m e d0 d w0 wc R hs T1.out hcc.1 hcc.2 (by omega) hsz;rw[HQE.out]at hcr;have HCR:=Hd hcr;clear hcr;go_wp2_with (go_at_fn 206;refine HCR.out.mono ?_;rintro e w2 ⟨rfl,T2⟩;have T2':Aside _:=T2;clear T2);go_meet;case rel=>
           rw[HD1.out,if_pos hcc];exact T2'
        case rest=>
         have T2:Aside _:=hcut;clear hcut T1;obtain⟨wv,rfl⟩:∃x,x=wc:=⟨wc,rfl⟩;go_upto_region 41 with fail;go_cut [199]from 178 (fun s199 wc=>s199=.bool b2/\Aside (SWK enc k w0 blk off d1 wc))
         case first=>
          by_cases g1:a<i
          ·have g1z:(a:Int)<(i:Int):=by omega
           by_cases g2:i<(a+b)/2
           ·have g2z:(i:Int)<((a:Int)+(b:Int))/2:=by omega
            go_wp2_with fail;go_meet;case rel=>exact⟨by rw[HB2.out,decide_eq_true (show a<i/\i<(a+b)/2 from⟨g1,g2⟩)],T2⟩
           ·have g2z:¬(i:Int)<((a:Int)+(b:Int))/2:=by omega
            go_wp2_with fail;go_meet;case rel=>exact⟨by rw[HB2.out,decide_eq_false (show¬(a<i/\i<(a+b)/2)from fun h=>g2 h.2)],T2⟩
          ·have g1z:¬(a:Int)<(i:Int):=by omega
           go_wp2_with fail;go_meet;case rel=>exact⟨by rw[HB2.out,decide_eq_false (show¬(a<i/\i<(a+b)/2)from fun h=>g1 h.1)],T2⟩
         case rest=>
          obtain⟨rfl,T3⟩:=hcut;clear T2;obtain⟨wu,rfl⟩:∃x,x=wc:=⟨wc,rfl⟩;go_upto_if 199 with fail;go_cut []from 178 (fun wc=>Aside (SWK enc k w0 blk off d2 wc))
          case first=>
           cases hb2v:b2
           ·subst hb2v;go_wp2_with fail;go_meet;case rel=>
             have:d2=d1:=by
              rw[HD2.out,if_neg (of_decide_eq_false HB2.out.symm)]
             rw[this];exact T3
           ·subst hb2v;have hcc:a<i/\i<(a+b)/2:=of_decide_eq_true HB2.out.symm;have hcr:=IH.out a i ((a+b)/2) d1 wu (by omega) hcc.1 hcc.2 (by rw[HZ1.out];omega) (by rw[HZ1.out];exact hs) T3.out;rw[HZ1.out,show(((a+b)/2:Nat):Int)=((a:Int)+(b:Int))/2 by omega]at hcr;have HCR:=Hd hcr;clear hcr;go_wp2_with (go_at_fn 183;refine HCR.out.mono ?_;rintro e w2 ⟨rfl,T4⟩;have T4':Aside _:=T4;clear T4);go_meet;case rel=>
             rw[HD2.out,if_pos hcc];exact T4'
          case rest=>
           have T4:Aside _:=hcut;clear hcut T3;obtain⟨wt,rfl⟩:∃x,x=wc:=⟨wc,rfl⟩;go_upto_region 43 with fail;go_cut [213]from 178 (fun s213 wc=>s213=.bool b3/\Aside (SWK enc k w0 blk off d2 wc))
           case first=>
            by_cases g1:(a+b)/2<e
            ·have g1z:((a:Int)+(b:Int))/2<((a:Int)+(b:Int))/2+(m:Int)-(i:Int):=by have:=HQE.out;omega
             by_cases g2:e<b
             ·have g2z:((a:Int)+(b:Int))/2+(m:Int)-(i:Int)<(b:Int):=by have:=HQE.out;omega
              go_wp2_with fail;go_meet;case rel=>exact⟨by rw[HB3.out,decide_eq_true (show(a+b)/2<e/\e<b from⟨g1,g2⟩)],T4⟩
             ·have g2z:¬((a:Int)+(b:Int))/2+(m:Int)-(i:Int)<(b:Int):=by have:=HQE.out;omega
              go_wp2_with fail;go_meet;case rel=>exact⟨by rw[HB3.out,decide_eq_false (show¬((a+b)/2<e/\e<b)from fun h=>g2 h.2)],T4⟩
            ·have g1z:¬((a:Int)+(b:Int))/2<((a:Int)+(b:Int))/2+(m:Int)-(i:Int):=by have:=HQE.out;omega
             go_wp2_with fail;go_meet;case rel=>exact⟨by rw[HB3.out,decide_eq_false (show¬((a+b)/2<e/\e<b)from fun h=>g1 h.1)],T4⟩
           case rest=>
            obtain⟨rfl,T5⟩:=hcut;clear T4;obtain⟨ws,rfl⟩:∃x,x=wc:=⟨wc,rfl⟩;cases hb3v:b3
            ·subst hb3v;go_wp2_with fail
             (first | go_end0 | ((try simp only[Exit.inBlock,Exit.then]);refine bodyPost_ret (results_none rfl _ _ _) rfl ?_))
             refine⟨rfl,?_⟩;rw[HFIN.out,if_neg (of_decide_eq_false HB3.out.symm)];exact T5.out
            ·subst hb3v;have hcc:(a+b)/2<e/\e<b:=of_decide_eq_true HB3.out.symm;have hcr:=IH.out ((a+b)/2) e b d2 ws (by omega) hcc.1 hcc.2 (by rw[HZ2.out];omega) (by rw[HZ2.out];exact hs) T5.out;rw[HZ2.out,HQE.out,show(((a+b)/2:Nat):Int)=((a:Int)+(b:Int))/2 by omega]at hcr;have HCR:=Hd hcr;clear hcr;go_wp2_with (go_at_fn 183;refine HCR.out.mono ?_;rintro e w2 ⟨rfl,T6⟩;have T6':Aside _:=T6;clear T6)
             (first | go_end0 | ((try simp only[Exit.inBlock,Exit.then]);refine bodyPost_ret (results_none rfl _ _ _) rfl ?_))
             refine⟨rfl,?_⟩;rw[HFIN.out,if_pos hcc];exact T6'.out
end
end Go.Proofs.YtcohlmdnahdnaaaGreatDoor
