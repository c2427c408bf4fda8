/- The stable sort at versions and at wants: the walks, and what it leaves of a row of the call's own. -/
import Derived.Deep.Cut
import Derived.Test.YtcohlmdnahdnaaaGreatDoorZKey
import Derived.Test.YtcohlmdnahdnaaaGreatDoorZStW1b
import Derived.Test.YtcohlmdnahdnaaaGreatDoorZTopP
import Derived.Test.YtcohlmdnahdnaaaGreatDoorZTopW2
namespace Go.Proofs.YtcohlmdnahdnaaaGreatDoor
open Go.RowKit
set_option linter.unusedVariables false
set_option linter.unusedSimpArgs false
set_option maxHeartbeats 16000000
set_option maxRecDepth 100000
section
open Go.Shelf Go.RowKit Go.Lib Go.Sort
open Top
theorem Nr{P:Program}{α:Type}[Inhabited α]{enc:α->List Value}{k:Nat}{w0 W:World}{blk off g:Nat}{cb:Array Value}{cf:α->α->Int}{d0 dk:Array α}(hcmp:CmpLays P g cb enc k cf blk off d0.size w0)(R:RowK enc k w0 blk off d0)(hs:dk.size=d0.size)(S:SWK enc k w0 blk off dk W):CmpLays P g cb enc k cf blk off dk.size W:=fun m os d' hd x y=>by
 obtain⟨m',os',hw⟩:=S.on R.hblk m d' os hd;rw[hw];exact hcmp m' os' d' (by omega) x y
theorem Vf:StT Tryz.prog 50 63 133 3 where
 mixed:=by kernel_rfl
 t0:=Tryz.underlying0
 a0:=Tryz.isAgg0
 z0:=Tryz.sizeOf0
 v0:=Tryz.zeroValue0
 t3:=Tryz.underlying3
 a3:=Tryz.isAgg3
 z3:=Tryz.sizeOf3
 v3:=Tryz.zeroValue3
 t4:=Tryz.underlying4
 a4:=Tryz.isAgg4
 z4:=Tryz.sizeOf4
 v4:=Tryz.zeroValue4
 tu:=Tryz.underlying164
 au:=Tryz.isAgg164
 zu:=Tryz.sizeOf164
 vu:=Tryz.zeroValue164
 tS:=Tryz.underlying63
 aS:=Tryz.isAgg63
 zS:=Tryz.sizeOf63
 vS:=Tryz.zeroValue63
 tf:=Tryz.underlying133
 af:=Tryz.isAgg133
 zf:=Tryz.sizeOf133
 vf:=Tryz.zeroValue133
 aE:=Tryz.isAgg50
 zE:=Tryz.sizeOf50
section
variable{α:Type}[Inhabited α](enc:α->List Value)(cf:α->α->Int)(g:Nat)(cb:Array Value)(blk off cap:Nat)(d0:Array α)(w0:World)
theorem Iw(eg:∀args w,(callFunc g args).run Tryz.prog w=.ok (.enter g args) w)(hcmp:CmpLays Tryz.prog g cb enc 3 cf blk off d0.size w0)(R:RowK enc 3 w0 blk off d0)(a b:Nat)(d:Array α)(w:World)(hab:a<=b)(hb:b<=d.size)(hs:d0.size=d.size)(S:SWK enc 3 w0 blk off d w)(hsz:d.size<1099511627776):
 Calls Tryz.prog 166 #[.slice (some ⟨blk,off,none⟩) d.size cap,.int .i64 a,.int .i64 b,.func (.func g) #[] cb] w fun e w'=>e=.returned (.tuple #[])/\SWK enc 3 w0 blk off (insertionSort (ltOf cf) d a b) w':=by
 have hcon:=AnyQ.insertionSortCmpFunc (P:=Tryz.prog) Tryz.insVer 3 Tryz.isAgg50 Tryz.sizeOf50 enc R.hk R.h1 cf g cb blk off cap a b d w eg (Nr hcmp R hs.symm S) (S.holds R.hblk R.hH hs.symm) (S.lt R.hblk) hab hb (by omega);change Calls Tryz.prog 166 _ _ _ at hcon;refine hcon.mono ?_;rintro e w1 ⟨he,n,os,hw⟩;refine⟨he,?_⟩;rw[hw];exact S.on R.hblk n _ os (Stab.jI (ltOf cf) a b d hb).1
theorem Gr(eg:∀args w,(callFunc g args).run Tryz.prog w=.ok (.enter g args) w)(hcmp:CmpLays Tryz.prog g cb enc 3 cf blk off d0.size w0)(R:RowK enc 3 w0 blk off d0)(f a m b:Nat)(d:Array α)(w:World)(hf:b-a<=f)(h1:a<m)(h2:m<b)(hb:b<=d.size)(hs:d0.size=d.size)(S:SWK enc 3 w0 blk off d w)(hsz:d.size<1099511627776):
 Calls Tryz.prog 167 #[.slice (some ⟨blk,off,none⟩) d.size cap,.int .i64 a,.int .i64 m,.int .i64 b,.func (.func g) #[] cb] w fun e w'=>e=.returned (.tuple #[])/\SWK enc 3 w0 blk off (Stab.dP (ltOf cf) f a m b d) w':=
 Gq 3 Vf Tryz.func216 Tryz.func201 Tryz.func167 enc cf g cb blk off cap d0 w0 eg hcmp R f a m b d w hf h1 h2 hb hs S hsz
set_option maxRecDepth 1000000 in
theorem yO(eg:∀args w,(callFunc g args).run Tryz.prog w=.ok (.enter g args) w)(hcmp:CmpLays Tryz.prog g cb enc 3 cf blk off d0.size w0)(R:RowK enc 3 w0 blk off d0)(hsz:d0.size<1099511627776):
 Calls Tryz.prog 127 #[.slice (some ⟨blk,off,none⟩) d0.size cap,.int .i64 d0.size,.func (.func g) #[] cb] w0 fun e w'=>e=.returned (.tuple #[])/\SWK enc 3 w0 blk off (Stab.sort (ltOf cf) d0) w':=by
 have INS:=Hd (Iw enc cf g cb blk off cap d0 w0 eg hcmp R);have SYM:=Hd (Gr enc cf g cb blk off cap d0 w0 eg hcmp R);have S0:Aside (SWK enc 3 w0 blk off d0 w0):=SWK.start R.hH;have HFIN:Hid (Stab.sort (ltOf cf) d0=Stab.levels (ltOf cf) d0.size 20 (Stab.blocks (ltOf cf) d0.size 0 d0)):=Hd rfl;have HB0:Hid ((Stab.blocks (ltOf cf) d0.size 0 d0).size=d0.size):=Hd (Stab.jU (ltOf cf) d0.size _ 0 d0 nL nL).1;obtain⟨dB,hdB⟩:∃x,x=Stab.blocks (ltOf cf) d0.size 0 d0:=⟨_,rfl⟩;obtain⟨n,hn⟩:∃n,n=d0.size:=⟨_,rfl⟩;rw[<-hdB]at HFIN HB0;rw[<-hn]at HFIN HB0 hsz hdB |-;have HN:=Hd hn;have HDB:=Hd hdB;clear hcmp R hn hdB;go_enter Tryz.func127,Tryz.ntmps127;go_wp2;go_loopg [7,8] n (fun kx s7 s8 wr=>∃(a:Nat) (dk:Array α),s7=.int .i64 a/\s8=.int .i64 ((a:Int)+20)/\a<=n/\n-a<=kx/\dk.size=n/\Aside (SWK enc 3 w0 blk off dk wr)/\Hid (Stab.blocks (ltOf cf) n a dk=dB))
 case atStart=>exact⟨0,d0,rfl,by first | rfl | go_num,by omega,by omega,HN.out.symm,S0,HDB.out.symm⟩
 case round=>
  clear S0;obtain⟨a,dk,rfl,rfl,han,hkx,hds,S1,HEQ⟩:=hrel;by_cases hlt:a+20<=n
  ·have hltz:(a:Int)+20<=(n:Int):=by omega
   have hc:=INS.out a (a+20) dk wr (by omega) (by omega) (by rw[hds];exact HN.out.symm) S1.out (by omega);rw[hds,show((a+20:Nat):Int)=(a:Int)+20 by omega]at hc;have HC:=Hd hc;have HSZ:Hid ((insertionSort (ltOf cf) dk a (a+20)).size=n):=Hd (by rw[(Stab.jI (ltOf cf) a (a+20) dk (by omega)).1];exact hds);have HEQ2:Hid (Stab.blocks (ltOf cf) n (a+20) (insertionSort (ltOf cf) dk a (a+20))=dB):=Hd (by
    have:=HEQ.out;rw[Stab.blocks,if_pos hlt]at this;exact this)
   clear hc;go_wp2_with (go_at_call 166;refine HC.out.mono ?_;rintro e w2 ⟨rfl,T2⟩;have T2':Aside _:=T2;clear T2);go_roundg (n-(a+20));case measure=>omega
   case rel=>exact⟨a+20,_,by go_num,by first | go_num | (congr 1;omega),hlt,nL,HSZ.out,T2',HEQ2⟩
  ·have hltz:¬(a:Int)+20<=(n:Int):=by omega
   have hc:=INS.out a n dk wr han (by omega) (by rw[hds];exact HN.out.symm) S1.out (by omega);rw[hds]at hc;have HC:=Hd hc;have HDB2:Hid (insertionSort (ltOf cf) dk a n=dB):=Hd (by
    have:=HEQ.out;rw[Stab.blocks,if_neg hlt]at this;exact this)
   clear hc;go_wp2_with (go_at_call 166;refine HC.out.mono ?_;rintro e w2 ⟨rfl,T2⟩;rw[HDB2.out]at T2;have T2':Aside _:=T2;clear T2);go_loopg [6] n (fun kx s6 wr=>∃(z:Nat) (dk:Array α),s6=.int .i64 z/\20<=z/\z<2199023255552/\n-z<=kx/\dk.size=n/\Aside (SWK enc 3 w0 blk off dk wr)/\Hid (Stab.levels (ltOf cf) n z dk=Stab.levels (ltOf cf) n 20 dB));case atStart=>exact⟨20,dB,rfl,by omega,by omega,by omega,HB0.out,T2',rfl⟩
   case round=>
    clear T2' S1 HEQ;obtain⟨z,dk,rfl,hz,hz2,hkx,hds,S1,HEQ⟩:=hrel;by_cases hzn:z<n
    ·have hznz:(z:Int)<(n:Int):=by omega
     have HEQ2:Hid (Stab.levels (ltOf cf) n (2*z) (Stab.merges (ltOf cf) z n 0 dk)=Stab.levels (ltOf cf) n 20 dB):=Hd (by
      have:=HEQ.out;rw[Stab.levels,if_pos (by omega)]at this;exact this)
     have HMS:Hid ((Stab.merges (ltOf cf) z n 0 dk).size=n):=Hd (by rw[(Stab.jQ (ltOf cf) z n (by omega) _ 0 dk nL (by omega)).1];exact hds);go_wp2_with fail;go_loopg [7,8] n (fun kx s7 s8 wr=>∃(a:Nat) (dq:Array α),s7=.int .i64 a/\s8=.int .i64 ((a:Int)+2*(z:Int))/\a<=n/\n-a<=kx/\dq.size=n/\Aside (SWK enc 3 w0 blk off dq wr)/\Hid (Stab.merges (ltOf cf) z n a dq=Stab.merges (ltOf cf) z n 0 dk));case atStart=>exact⟨0,dk,rfl,by first | rfl | go_num | (congr 1;omega),by omega,by omega,hds,S1,rfl⟩
     case round=>
      clear S1 HEQ;obtain⟨a,dq,rfl,rfl,han,hkx,hds,S1,HM⟩:=hrel;by_cases hlt:a+2*z<=n
      ·have hltz:(a:Int)+2*(z:Int)<=(n:Int):=by omega
       have hc:=SYM.out (2*z) a (a+z) (a+2*z) dq wr (by omega) (by omega) (by omega) (by omega) (by rw[hds];exact HN.out.symm) S1.out (by omega);rw[hds,show((a+z:Nat):Int)=(a:Int)+(z:Int) by omega,show((a+2*z:Nat):Int)=(a:Int)+2*(z:Int) by omega]at hc;have HC:=Hd hc;have HSZ:Hid ((Stab.dP (ltOf cf) (2*z) a (a+z) (a+2*z) dq).size=n):=Hd (by rw[(Stab.fE (ltOf cf) (2*z) a (a+z) (a+2*z) dq (by omega) (by omega) (by omega)).1];exact hds);have HM2:Hid (Stab.merges (ltOf cf) z n (a+2*z) (Stab.dP (ltOf cf) (2*z) a (a+z) (a+2*z) dq)=Stab.merges (ltOf cf) z n 0 dk):=Hd (by
        have:=HM.out;rw[Stab.merges,dif_pos ⟨by omega,hlt⟩]at this;exact this)
       clear hc;go_wp2_with (go_at_call 167;refine HC.out.mono ?_;rintro e w2 ⟨rfl,T2⟩;have T2':Aside _:=T2;clear T2);go_roundg (n-(a+2*z));case measure=>omega
       case rel=>exact⟨a+2*z,_,by first | go_num | (congr 1;omega),by first | go_num | (congr 1;omega),hlt,nL,HSZ.out,T2',HM2⟩
      ·have hltz:¬(a:Int)+2*(z:Int)<=(n:Int):=by omega
       by_cases hmn:a+z<n
       ·have hmnz:(a:Int)+(z:Int)<(n:Int):=by omega
        have hc:=SYM.out (n-a) a (a+z) n dq wr (by omega) (by omega) hmn (by omega) (by rw[hds];exact HN.out.symm) S1.out (by omega);rw[hds,show((a+z:Nat):Int)=(a:Int)+(z:Int) by omega]at hc;have HC:=Hd hc;have HM2:Hid (Stab.dP (ltOf cf) (n-a) a (a+z) n dq=Stab.merges (ltOf cf) z n 0 dk):=Hd (by
         have:=HM.out;rw[Stab.merges,dif_neg (fun h=>hlt h.2),if_pos hmn]at this;exact this)
        clear hc;go_wp2_with (go_at_call 167;refine HC.out.mono ?_;rintro e w2 ⟨rfl,T2⟩;rw[HM2.out]at T2;have T2':Aside _:=T2;clear T2);go_roundg (n-2*z);case measure=>omega
        case rel=>exact⟨2*z,_,by first | go_num | (congr 1;omega),by omega,by omega,nL,HMS.out,T2',HEQ2⟩
       ·have hmnz:¬(a:Int)+(z:Int)<(n:Int):=by omega
        have HM2:Hid (dq=Stab.merges (ltOf cf) z n 0 dk):=Hd (by
         have:=HM.out;rw[Stab.merges,dif_neg (fun h=>hlt h.2),if_neg hmn]at this;exact this)
        go_wp2_with fail;go_roundg (n-2*z);case measure=>omega
        case rel=>exact⟨2*z,_,by first | go_num | (congr 1;omega),by omega,by omega,nL,HMS.out,by rw[<-HM2.out];exact S1,HEQ2⟩
    ·have hznz:¬(z:Int)<(n:Int):=by omega
     have HF:Hid (dk=Stab.sort (ltOf cf) d0):=Hd (by
      have:=HEQ.out;rw[Stab.levels,if_neg (by omega)]at this;rw[HFIN.out];exact this)
     go_wp2_with fail;go_end0;exact⟨rfl,by rw[<-HF.out];exact S1.out⟩
end
theorem yQ{α:Type}[Inhabited α](enc:α->List Value)(hk:∀x,(enc x).length=3)(h1:∀x,∀v∈enc x,v.oneCell'=true)(cf:α->α->Int)(g:Nat)(cb:Array Value)(blk cap:Nat)(d0:Array α)(w0:World)
 (eg:∀args w,(callFunc g args).run Tryz.prog w=.ok (.enter g args) w)(hcmp:CmpLays Tryz.prog g cb enc 3 cf blk 0 d0.size w0)(hH:HoldsK enc 3 w0 blk 0 d0)(hblk:blk<w0.heap.size)(hsz:d0.size<1099511627776):
 Calls Tryz.prog 82 #[.slice (some ⟨blk,0,none⟩) d0.size cap,.func (.func g) #[] cb] w0 fun e w'=>e=.returned (.tuple #[])/\SWK enc 3 w0 blk 0 (Stab.sort (ltOf cf) d0) w':=by
 have hc:=yO enc cf g cb blk 0 cap d0 w0 eg hcmp ⟨hk,h1,hH,hblk⟩ hsz;have HC:=Hd hc;clear hc hcmp hH;go_enter Tryz.func82,Tryz.ntmps82;go_wp2_with (go_at_call 127;refine HC.out.mono ?_;rintro e w2 ⟨rfl,T2⟩;have T2':Aside _:=T2;clear T2);go_end0;exact⟨rfl,T2'.out⟩
theorem pW(a:Option Addr)(cap:Nat)(fv:Value)(w:World):Calls Tryz.prog 82 #[.slice a 0 cap,fv] w fun e w'=>e=.returned (.tuple #[])/\w'=w:=by
 have hc:∀W,Calls Tryz.prog 166 #[.slice a 0 cap,.int .i64 0,.int .i64 0,fv] W fun e w'=>e=.returned (.tuple #[])/\w'=W:=fun W=>AnyF.insertionSortCmpFunc_none (P:=Tryz.prog) Tryz.insVer a cap fv W;have HC:=Hd hc;clear hc;have hs:Calls Tryz.prog 127 #[.slice a 0 cap,.int .i64 0,fv] w fun e w'=>e=.returned (.tuple #[])/\w'=w:=by
  go_enter Tryz.func127,Tryz.ntmps127;go_wp2;refine wp_loop_rounds 1 ?_;rw[rounds_succ];go_wp2_with (go_at_call 166;refine(HC.out _).mono ?_;rintro e w2 ⟨rfl,rfl⟩);refine wp_loop_rounds 1 ?_;rw[rounds_succ];go_wp2;go_end0;exact⟨rfl,rfl⟩
 have HS:=Hd hs;clear hs;go_enter Tryz.func82,Tryz.ntmps82;go_wp2_with (go_at_call 127;refine HS.out.mono ?_;rintro e w2 ⟨rfl,rfl⟩);go_end0;exact⟨rfl,rfl⟩
theorem Vd:StT Tryz.prog 69 60 175 3 where
 mixed:=by kernel_rfl
 t0:=Tryz.underlying0
 a0:=Tryz.isAgg0
 z0:=Tryz.sizeOf0
 v0:=Tryz.zeroValue0
 t3:=Tryz.underlying3
 a3:=Tryz.isAgg3
 z3:=Tryz.sizeOf3
 v3:=Tryz.zeroValue3
 t4:=Tryz.underlying4
 a4:=Tryz.isAgg4
 z4:=Tryz.sizeOf4
 v4:=Tryz.zeroValue4
 tu:=Tryz.underlying164
 au:=Tryz.isAgg164
 zu:=Tryz.sizeOf164
 vu:=Tryz.zeroValue164
 tS:=Tryz.underlying60
 aS:=Tryz.isAgg60
 zS:=Tryz.sizeOf60
 vS:=Tryz.zeroValue60
 tf:=Tryz.underlying175
 af:=Tryz.isAgg175
 zf:=Tryz.sizeOf175
 vf:=Tryz.zeroValue175
 aE:=Tryz.isAgg69
 zE:=Tryz.sizeOf69
section
variable{α:Type}[Inhabited α](enc:α->List Value)(cf:α->α->Int)(g:Nat)(cb:Array Value)(blk off cap:Nat)(d0:Array α)(w0:World)
theorem Iu(eg:∀args w,(callFunc g args).run Tryz.prog w=.ok (.enter g args) w)(hcmp:CmpLays Tryz.prog g cb enc 3 cf blk off d0.size w0)(R:RowK enc 3 w0 blk off d0)(a b:Nat)(d:Array α)(w:World)(hab:a<=b)(hb:b<=d.size)(hs:d0.size=d.size)(S:SWK enc 3 w0 blk off d w)(hsz:d.size<1099511627776):
 Calls Tryz.prog 182 #[.slice (some ⟨blk,off,none⟩) d.size cap,.int .i64 a,.int .i64 b,.func (.func g) #[] cb] w fun e w'=>e=.returned (.tuple #[])/\SWK enc 3 w0 blk off (insertionSort (ltOf cf) d a b) w':=by
 have hcon:=AnyQ.insertionSortCmpFunc (P:=Tryz.prog) Tryz.insWant 3 Tryz.isAgg69 Tryz.sizeOf69 enc R.hk R.h1 cf g cb blk off cap a b d w eg (Nr hcmp R hs.symm S) (S.holds R.hblk R.hH hs.symm) (S.lt R.hblk) hab hb (by omega);change Calls Tryz.prog 182 _ _ _ at hcon;refine hcon.mono ?_;rintro e w1 ⟨he,n,os,hw⟩;refine⟨he,?_⟩;rw[hw];exact S.on R.hblk n _ os (Stab.jI (ltOf cf) a b d hb).1
theorem Gp(eg:∀args w,(callFunc g args).run Tryz.prog w=.ok (.enter g args) w)(hcmp:CmpLays Tryz.prog g cb enc 3 cf blk off d0.size w0)(R:RowK enc 3 w0 blk off d0)(f a m b:Nat)(d:Array α)(w:World)(hf:b-a<=f)(h1:a<m)(h2:m<b)(hb:b<=d.size)(hs:d0.size=d.size)(S:SWK enc 3 w0 blk off d w)(hsz:d.size<1099511627776):
 Calls Tryz.prog 183 #[.slice (some ⟨blk,off,none⟩) d.size cap,.int .i64 a,.int .i64 m,.int .i64 b,.func (.func g) #[] cb] w fun e w'=>e=.returned (.tuple #[])/\SWK enc 3 w0 blk off (Stab.dP (ltOf cf) f a m b d) w':=
 Gn 3 Vd Tryz.func218 Tryz.func206 Tryz.func183 enc cf g cb blk off cap d0 w0 eg hcmp R f a m b d w hf h1 h2 hb hs S hsz
set_option maxRecDepth 1000000 in
theorem yN(eg:∀args w,(callFunc g args).run Tryz.prog w=.ok (.enter g args) w)(hcmp:CmpLays Tryz.prog g cb enc 3 cf blk off d0.size w0)(R:RowK enc 3 w0 blk off d0)(hsz:d0.size<1099511627776):
 Calls Tryz.prog 142 #[.slice (some ⟨blk,off,none⟩) d0.size cap,.int .i64 d0.size,.func (.func g) #[] cb] w0 fun e w'=>e=.returned (.tuple #[])/\SWK enc 3 w0 blk off (Stab.sort (ltOf cf) d0) w':=by
 have INS:=Hd (Iu enc cf g cb blk off cap d0 w0 eg hcmp R);have SYM:=Hd (Gp enc cf g cb blk off cap d0 w0 eg hcmp R);have S0:Aside (SWK enc 3 w0 blk off d0 w0):=SWK.start R.hH;have HFIN:Hid (Stab.sort (ltOf cf) d0=Stab.levels (ltOf cf) d0.size 20 (Stab.blocks (ltOf cf) d0.size 0 d0)):=Hd rfl;have HB0:Hid ((Stab.blocks (ltOf cf) d0.size 0 d0).size=d0.size):=Hd (Stab.jU (ltOf cf) d0.size _ 0 d0 nL nL).1;obtain⟨dB,hdB⟩:∃x,x=Stab.blocks (ltOf cf) d0.size 0 d0:=⟨_,rfl⟩;obtain⟨n,hn⟩:∃n,n=d0.size:=⟨_,rfl⟩;rw[<-hdB]at HFIN HB0;rw[<-hn]at HFIN HB0 hsz hdB |-;have HN:=Hd hn;have HDB:=Hd hdB;clear hcmp R hn hdB;go_enter Tryz.func142,Tryz.ntmps142;go_wp2;go_loopg [7,8] n (fun kx s7 s8 wr=>∃(a:Nat) (dk:Array α),s7=.int .i64 a/\s8=.int .i64 ((a:Int)+20)/\a<=n/\n-a<=kx/\dk.size=n/\Aside (SWK enc 3 w0 blk off dk wr)/\Hid (Stab.blocks (ltOf cf) n a dk=dB))
 case atStart=>exact⟨0,d0,rfl,by first | rfl | go_num,by omega,by omega,HN.out.symm,S0,HDB.out.symm⟩
 case round=>
  clear S0;obtain⟨a,dk,rfl,rfl,han,hkx,hds,S1,HEQ⟩:=hrel;by_cases hlt:a+20<=n
  ·have hltz:(a:Int)+20<=(n:Int):=by omega
   have hc:=INS.out a (a+20) dk wr (by omega) (by omega) (by rw[hds];exact HN.out.symm) S1.out (by omega);rw[hds,show((a+20:Nat):Int)=(a:Int)+20 by omega]at hc;have HC:=Hd hc;have HSZ:Hid ((insertionSort (ltOf cf) dk a (a+20)).size=n):=Hd (by rw[(Stab.jI (ltOf cf) a (a+20) dk (by omega)).1];exact hds);have HEQ2:Hid (Stab.blocks (ltOf cf) n (a+20) (insertionSort (ltOf cf) dk a (a+20))=dB):=Hd (by
    have:=HEQ.out;rw[Stab.blocks,if_pos hlt]at this;exact this)
   clear hc;go_wp2_with (go_at_call 182;refine HC.out.mono ?_;rintro e w2 ⟨rfl,T2⟩;have T2':Aside _:=T2;clear T2);go_roundg (n-(a+20));case measure=>omega
   case rel=>exact⟨a+20,_,by go_num,by first | go_num | (congr 1;omega),hlt,nL,HSZ.out,T2',HEQ2⟩
  ·have hltz:¬(a:Int)+20<=(n:Int):=by omega
   have hc:=INS.out a n dk wr han (by omega) (by rw[hds];exact HN.out.symm) S1.out (by omega);rw[hds]at hc;have HC:=Hd hc;have HDB2:Hid (insertionSort (ltOf cf) dk a n=dB):=Hd (by
    have:=HEQ.out;rw[Stab.blocks,if_neg hlt]at this;exact this)
   clear hc;go_wp2_with (go_at_call 182;refine HC.out.mono ?_;rintro e w2 ⟨rfl,T2⟩;rw[HDB2.out]at T2;have T2':Aside _:=T2;clear T2);go_loopg [6] n (fun kx s6 wr=>∃(z:Nat) (dk:Array α),s6=.int .i64 z/\20<=z/\z<2199023255552/\n-z<=kx/\dk.size=n/\Aside (SWK enc 3 w0 blk off dk wr)/\Hid (Stab.levels (ltOf cf) n z dk=Stab.levels (ltOf cf) n 20 dB));case atStart=>exact⟨20,dB,rfl,by omega,by omega,by omega,HB0.out,T2',rfl⟩
   case round=>
    clear T2' S1 HEQ;obtain⟨z,dk,rfl,hz,hz2,hkx,hds,S1,HEQ⟩:=hrel;by_cases hzn:z<n
    ·have hznz:(z:Int)<(n:Int):=by omega
     have HEQ2:Hid (Stab.levels (ltOf cf) n (2*z) (Stab.merges (ltOf cf) z n 0 dk)=Stab.levels (ltOf cf) n 20 dB):=Hd (by
      have:=HEQ.out;rw[Stab.levels,if_pos (by omega)]at this;exact this)
     have HMS:Hid ((Stab.merges (ltOf cf) z n 0 dk).size=n):=Hd (by rw[(Stab.jQ (ltOf cf) z n (by omega) _ 0 dk nL (by omega)).1];exact hds);go_wp2_with fail;go_loopg [7,8] n (fun kx s7 s8 wr=>∃(a:Nat) (dq:Array α),s7=.int .i64 a/\s8=.int .i64 ((a:Int)+2*(z:Int))/\a<=n/\n-a<=kx/\dq.size=n/\Aside (SWK enc 3 w0 blk off dq wr)/\Hid (Stab.merges (ltOf cf) z n a dq=Stab.merges (ltOf cf) z n 0 dk));case atStart=>exact⟨0,dk,rfl,by first | rfl | go_num | (congr 1;omega),by omega,by omega,hds,S1,rfl⟩
     case round=>
      clear S1 HEQ;obtain⟨a,dq,rfl,rfl,han,hkx,hds,S1,HM⟩:=hrel;by_cases hlt:a+2*z<=n
      ·have hltz:(a:Int)+2*(z:Int)<=(n:Int):=by omega
       have hc:=SYM.out (2*z) a (a+z) (a+2*z) dq wr (by omega) (by omega) (by omega) (by omega) (by rw[hds];exact HN.out.symm) S1.out (by omega);rw[hds,show((a+z:Nat):Int)=(a:Int)+(z:Int) by omega,show((a+2*z:Nat):Int)=(a:Int)+2*(z:Int) by omega]at hc;have HC:=Hd hc;have HSZ:Hid ((Stab.dP (ltOf cf) (2*z) a (a+z) (a+2*z) dq).size=n):=Hd (by rw[(Stab.fE (ltOf cf) (2*z) a (a+z) (a+2*z) dq (by omega) (by omega) (by omega)).1];exact hds);have HM2:Hid (Stab.merges (ltOf cf) z n (a+2*z) (Stab.dP (ltOf cf) (2*z) a (a+z) (a+2*z) dq)=Stab.merges (ltOf cf) z n 0 dk):=Hd (by
        have:=HM.out;rw[Stab.merges,dif_pos ⟨by omega,hlt⟩]at this;exact this)
       clear hc;go_wp2_with (go_at_call 183;refine HC.out.mono ?_;rintro e w2 ⟨rfl,T2⟩;have T2':Aside _:=T2;clear T2);go_roundg (n-(a+2*z));case measure=>omega
       case rel=>exact⟨a+2*z,_,by first | go_num | (congr 1;omega),by first | go_num | (congr 1;omega),hlt,nL,HSZ.out,T2',HM2⟩
      ·have hltz:¬(a:Int)+2*(z:Int)<=(n:Int):=by omega
       by_cases hmn:a+z<n
       ·have hmnz:(a:Int)+(z:Int)<(n:Int):=by omega
        have hc:=SYM.out (n-a) a (a+z) n dq wr (by omega) (by omega) hmn (by omega) (by rw[hds];exact HN.out.symm) S1.out (by omega);rw[hds,show((a+z:Nat):Int)=(a:Int)+(z:Int) by omega]at hc;have HC:=Hd hc;have HM2:Hid (Stab.dP (ltOf cf) (n-a) a (a+z) n dq=Stab.merges (ltOf cf) z n 0 dk):=Hd (by
         have:=HM.out;rw[Stab.merges,dif_neg (fun h=>hlt h.2),if_pos hmn]at this;exact this)
        clear hc;go_wp2_with (go_at_call 183;refine HC.out.mono ?_;rintro e w2 ⟨rfl,T2⟩;rw[HM2.out]at T2;have T2':Aside _:=T2;clear T2);go_roundg (n-2*z);case measure=>omega
        case rel=>exact⟨2*z,_,by first | go_num | (congr 1;omega),by omega,by omega,nL,HMS.out,T2',HEQ2⟩
       ·have hmnz:¬(a:Int)+(z:Int)<(n:Int):=by omega
        have HM2:Hid (dq=Stab.merges (ltOf cf) z n 0 dk):=Hd (by
         have:=HM.out;rw[Stab.merges,dif_neg (fun h=>hlt h.2),if_neg hmn]at this;exact this)
        go_wp2_with fail;go_roundg (n-2*z);case measure=>omega
        case rel=>exact⟨2*z,_,by first | go_num | (congr 1;omega),by omega,by omega,nL,HMS.out,by rw[<-HM2.out];exact S1,HEQ2⟩
    ·have hznz:¬(z:Int)<(n:Int):=by omega
     have HF:Hid (dk=Stab.sort (ltOf cf) d0):=Hd (by
      have:=HEQ.out;rw[Stab.levels,if_neg (by omega)]at this;rw[HFIN.out];exact this)
     go_wp2_with fail;go_end0;exact⟨rfl,by rw[<-HF.out];exact S1.out⟩
end
theorem yP{α:Type}[Inhabited α](enc:α->List Value)(hk:∀x,(enc x).length=3)(h1:∀x,∀v∈enc x,v.oneCell'=true)(cf:α->α->Int)(g:Nat)(cb:Array Value)(blk cap:Nat)(d0:Array α)(w0:World)
 (eg:∀args w,(callFunc g args).run Tryz.prog w=.ok (.enter g args) w)(hcmp:CmpLays Tryz.prog g cb enc 3 cf blk 0 d0.size w0)(hH:HoldsK enc 3 w0 blk 0 d0)(hblk:blk<w0.heap.size)(hsz:d0.size<1099511627776):
 Calls Tryz.prog 100 #[.slice (some ⟨blk,0,none⟩) d0.size cap,.func (.func g) #[] cb] w0 fun e w'=>e=.returned (.tuple #[])/\SWK enc 3 w0 blk 0 (Stab.sort (ltOf cf) d0) w':=by
 have hc:=yN enc cf g cb blk 0 cap d0 w0 eg hcmp ⟨hk,h1,hH,hblk⟩ hsz;have HC:=Hd hc;clear hc hcmp hH;go_enter Tryz.func100,Tryz.ntmps100;go_wp2_with (go_at_call 142;refine HC.out.mono ?_;rintro e w2 ⟨rfl,T2⟩;have T2':Aside _:=T2;clear T2);go_end0;exact⟨rfl,T2'.out⟩
theorem pV(a:Option Addr)(cap:Nat)(fv:Value)(w:World):Calls Tryz.prog 100 #[.slice a 0 cap,fv] w fun e w'=>e=.returned (.tuple #[])/\w'=w:=by
 have hc:∀W,Calls Tryz.prog 182 #[.slice a 0 cap,.int .i64 0,.int .i64 0,fv] W fun e w'=>e=.returned (.tuple #[])/\w'=W:=fun W=>AnyF.insertionSortCmpFunc_none (P:=Tryz.prog) Tryz.insWant a cap fv W;have HC:=Hd hc;clear hc;have hs:Calls Tryz.prog 142 #[.slice a 0 cap,.int .i64 0,fv] w fun e w'=>e=.returned (.tuple #[])/\w'=w:=by
  go_enter Tryz.func142,Tryz.ntmps142;go_wp2;refine wp_loop_rounds 1 ?_;rw[rounds_succ];go_wp2_with (go_at_call 182;refine(HC.out _).mono ?_;rintro e w2 ⟨rfl,rfl⟩);refine wp_loop_rounds 1 ?_;rw[rounds_succ];go_wp2;go_end0;exact⟨rfl,rfl⟩
 have HS:=Hd hs;clear hs;go_enter Tryz.func100,Tryz.ntmps100;go_wp2_with (go_at_call 142;refine HS.out.mono ?_;rintro e w2 ⟨rfl,rfl⟩);go_end0;exact⟨rfl,rfl⟩
end
section
open Go.RowKit Go.Sort
open Top
namespace Top
abbrev tT:=Wt×(Option Addr×Nat)
def gP(p:tT):List Value:=[sv p.1.name,.int .i64 p.1.kind,.slice p.2.1 p.1.rg.length p.2.2]
def Cg(p:tT):Wv:=⟨p.1.name,p.1.kind,p.2.1,p.1.rg.length,p.2.2⟩
theorem Kl(p:tT):(gP p).length=3:=rfl
theorem Rq:∀p,∀v∈gP p,v.oneCell'=true:=fun p=>Rp (Cg p)
structure WtsOwn(w:World)(base:Nat)(v:Value)(L:List tT):Prop where
 row:w.ownsRow base 69 3 v L.length (L.flatMap gP)
 rgs:∀p∈L,w.ownsRow base 73 6 (.slice p.2.1 p.1.rg.length p.2.2) p.1.rg.length (p.1.rg.map aU).flatten
theorem WtsOwn.nil(w:World)(base:Nat):WtsOwn w base (.slice none 0 0) []:=⟨World.ownsRow_nil _ _ _ _,fun p h=>by simp at h⟩
theorem WtsOwn.kept{w w':World}{base:Nat}{v:Value}{L:List tT}(h:WtsOwn w base v L){row:Option Nat}(hg:w.grownBy w' row)(hr:∀k,row=some k->∃cur t fr,w.heap[k]? =some (.cells cur t fr)/\t≠69/\t≠73):WtsOwn w' base v L:=by
 have key:∀ {e:TypeId} {z:Nat} {u:Value} {n:Nat} {xs:List Value},e=69\/e=73->w.ownsRow base e z u n xs->w'.ownsRow base e z u n xs:=fun {e z u n xs} he hu=>by
  refine hu.kept hg ?_;cases row with
  | none=>cases u.ownBlock<;>simp
  | some k=>
   obtain⟨cur,t,fr,hk,h1,h2⟩:=hr k rfl;rcases hu.2 with⟨rfl,_⟩ | ⟨g,cap,cur',rfl,_,hg',_⟩
   ·exact Or.inl rfl
   ·refine Or.inr fun e'=>?_;have:g=k:=Option.some.inj e';subst this;rw[hk]at hg';simp only[iS,Obj.cells.injEq]at hg';rcases he with rfl | rfl
    ·exact h1 hg'.2.1
    ·exact h2 hg'.2.1
 exact⟨key (Or.inl rfl) h.row,fun p hp=>key (Or.inr rfl) (h.rgs p hp)⟩
theorem WtsOwn.below{w w':World}{base:Nat}{v:Value}{L:List tT}(h:WtsOwn w base v L)(hb:Below w.heap.size w w'):WtsOwn w' base v L:=
 h.kept (row:=none) ⟨hb.os,hb.tape,hb.output,hb.size,fun k hk _=>hb.block k hk⟩ fun k hk=>by simp at hk
theorem WtsOwn.add{w w':World}{base:Nat}{v v':Value}{L:List tT}(h:WtsOwn w base v L){p:tT}(hg:w.grownBy w' v.ownBlock)(hr:w'.ownsRow base 69 3 v' (L.length+1) (L.flatMap gP++gP p))
 (hc:w'.ownsRow base 73 6 (.slice p.2.1 p.1.rg.length p.2.2) p.1.rg.length (p.1.rg.map aU).flatten):WtsOwn w' base v' (L++[p]):=by
 refine⟨by rw[lA,List.length_singleton,List.flatMap_append];simpa using hr,fun q hq=>?_⟩;rcases List.mem_append.1 hq with hq | hq
 ·exact(h.rgs q hq).kept hg (aJ (h.rgs q hq) h.row (by decide))
 ·simp only[mI]at hq;subst hq;exact hc
theorem WtsOwn.turned{w w':World}{base:Nat}{v:Value}{L L':List tT}(h:WtsOwn w base v L)(hp:L'.Perm L)(hg:w.grownBy w' v.ownBlock)(hr:w'.ownsRow base 69 3 v L'.length (L'.flatMap gP)):WtsOwn w' base v L':=
 ⟨hr,fun q hq=>(h.rgs q (hp.mem_iff.1 hq)).kept hg (aJ (h.rgs q (hp.mem_iff.1 hq)) h.row (by decide))⟩
theorem WtsOwn.reads{w:World}{base:Nat}{v:Value}{L:List tT}(h:WtsOwn w base v L):WtsI w base w.heap.size v (L.map (·.1)):=by
 refine⟨L.map fun p=> .slice p.2.1 p.1.rg.length p.2.2,by simp,?_,fun i x c hx hc=>?_⟩
 ·have e:List.zipWith jL (L.map (·.1)) (L.map fun p=>Value.slice p.2.1 p.1.rg.length p.2.2)=L.map gP:=by
   rw[List.zipWith_map,List.zipWith_self];rfl
  rw[e];refine RowI.of_own (n:=L.length) (e:=69) ?_ (by simp) (by rw[<-List.flatMap_def];exact h.row);intro y hy;obtain⟨p,_,rfl⟩:=List.mem_map.1 hy;rfl
 ·rw[gM]at hx hc;cases hl:L[i]? with
  | none=>rw[hl]at hx;simp at hx
  | some p=>
   rw[hl]at hx hc;simp only[Option.map_some,iS]at hx hc;subst hx hc;refine RowI.of_own (n:=p.1.rg.length) (e:=73) ?_ (by simp) (h.rgs p (mG hl));intro y hy;obtain⟨s,_,rfl⟩:=List.mem_map.1 hy;rfl
theorem WtsI.clip{w:World}{lo hi:Nat}{a:Option Addr}{n c:Nat}{l:List Wt}(h:WtsI w lo hi (.slice a n c) l):WtsI w lo hi (.slice a n n) l:=by
 obtain⟨cs,h1,h2,h3⟩:=h.is;exact⟨cs,h1,h2.clip,h3⟩
def jB(L:List tT):List tT:=(Stab.sort (fun x y:tT=>Ca x.1 y.1) L.toArray).toList
theorem jN(L:List tT):(jB L).Perm L:=jA _ _
theorem Ck(L:List tT):(jB L).map (·.1)=(Stab.sort Ca (L.map (·.1)).toArray).toList:=by
 unfold jB;have:=Stab.La (f:=fun p:tT=>p.1) (lt:=fun x y:tT=>Ca x.1 y.1) (lt':=Ca) rfl (fun _ _=>rfl) L.toArray;rw[<-List.map_toArray,<-this,Array.toList_map]
end Top
theorem zV{w:World}{base:Nat}{v:Value}{L:List tT}(h:WtsOwn w base v L)(hn:L.length<1000000000):
 Calls Tryz.prog 100 #[v,.func (.func 101) #[] #[]] w fun e w'=>e=.returned (.tuple #[])/\WtsOwn w' base v (jB L)/\w.grownBy w' v.ownBlock:=by
 rcases Nat.eq_zero_or_pos L.length with h0 | h0
 ·have e1:L=[]:=List.length_eq_zero_iff.1 h0;subst e1;obtain⟨a,c,rfl⟩:=aC h.row;refine(pV a c (.func (.func 101) #[] #[]) w).mono ?_;rintro e w1 ⟨rfl,rfl⟩;have e2:jB []=[]:=List.perm_nil.1 (jN []);rw[e2];exact⟨rfl,h,⟨rfl,rfl,rfl,nL,fun _ _ _=>rfl⟩⟩
 ·obtain⟨g,cap,rfl,hg,hbg,hH,hall⟩:=iV Kl h.row h0;have hcon:=yP gP Kl Rq (fun x y:tT=>wL (fun z:Wv=>z.name) (Cg x) (Cg y)) 101 #[] g cap L.toArray w Qx (fun m os dk hs x y=>Oi (Cg x) (Cg y) _) hH hg (by simp;omega);rw[List.size_toArray]at hcon;refine hcon.mono ?_;rintro e w1 ⟨rfl,n,os,rfl⟩;have elt:Go.Proofs.ltOf (fun x y:tT=>wL (fun z:Wv=>z.name) (Cg x) (Cg y))=fun x y:tT=>Ca x.1 y.1:=by
   funext x y;exact gB x.1.name y.1.name
  rw[elt];have hl:(jB L).length=L.length:=(jN L).length_eq;have hr:=hall (jB L) hl n os;have e2:(jB L).toArray=Stab.sort (fun x y:tT=>Ca x.1 y.1) L.toArray:=by unfold jB;simp
  rw[e2]at hr;have hown:=hr.1;rw[hl]at hown;exact⟨rfl,h.turned (jN L) hr.2 (by rw[hl];exact hown),hr.2⟩
end
section
open Go.RowKit Go.Maps Go.WideMaps
namespace Top
def RV:Value->Option (DataW Value×List MemPlace):=fun v=>some (.held v,[])
def nC(k:Ky):Prop:=∃kl,keyOf Tryz.prog 89 (lQ k.1 k.2)=some kl
theorem Aw{a b:Ky}(h:lQ a.1 a.2=lQ b.1 b.2):a=b:=by
 obtain⟨n,v⟩:=a;obtain⟨m,u⟩:=b;unfold lQ sv bs at h;obtain⟨v1,v2,v3⟩:=v;obtain⟨u1,u2,u3⟩:=u;simp at h;obtain⟨h1,h2,h3,h4⟩:=h;subst h1 h2 h3 h4;rfl
def look(L:List (Ky×Value))(k:Ky):Option Value:=(L.find? fun x=>x.1==k).map (·.2)
theorem bX(x:Ky×Value)(L:List (Ky×Value))(k:Ky):look (x::L) k=if x.1=k then some x.2 else look L k:=by
 unfold look;rw[List.find?_cons];by_cases h:x.1=k
 ·simp[h]
 ·rw[beq_eq_false_iff_ne.2 h,if_neg h]
theorem fG{L:List (Ky×Value)}{k:Ky}:(look L k).isSome=true↔k∈L.map (·.1):=by
 induction L with
 | nil=>simp[look]
 | cons x L ih=>
  rw[bX,List.map_cons,List.mem_cons];by_cases h:x.1=k
  ·simp[h]
  ·rw[if_neg h,ih];simp[Ne.symm h]
structure CMap(w:World)(b n:Nat)(L:List (Ky×Value)):Prop where
 own:∃D,w.ownsMap Tryz.prog 89 RV b n D/\Maps.size D=L.length/\(∀kl,Maps.has D kl=true->∃k,keyOf Tryz.prog 89 (lQ k.1 k.2)=some kl/\k∈L.map (·.1))/\
  ∀(k:Ky) (kl:Lit),keyOf Tryz.prog 89 (lQ k.1 k.2)=some kl->Maps.has D kl=(look L k).isSome/\∀zd,D.atKey kl zd=match look L k with | some x=> .held x | none=>zd
 ok:∀k∈L.map (·.1),nC k
 nodup:(L.map (·.1)).Nodup
variable{w:World}{b n:Nat}{L:List (Ky×Value)}
theorem CMap.made(w:World):CMap (w.alloc (.map #[] 0)) w.heap.size 0 []:=
 ⟨⟨_,World.ownsMap_made _ _ _ _,rfl,fun kl h=>by simp[Maps.has]at h,fun k kl _=>⟨rfl,fun zd=>rfl⟩⟩,fun k h=>by simp at h,List.nodup_nil⟩
theorem CMap.below{w':World}{B:Nat}(h:CMap w b n L)(hb:Below B w w')(hB:b<B):CMap w' b n L:=by
 obtain⟨⟨D,⟨es,clock,h1,h2⟩,h3⟩,h4,h5⟩:=h;exact⟨⟨D,⟨es,clock,(hb.block b hB).trans h1,h2⟩,h3⟩,h4,h5⟩
theorem CMap.heap{w':World}(h:CMap w b n L)(hb:w'.heap[b]? =w.heap[b]?):CMap w' b n L:=by
 obtain⟨⟨D,⟨es,clock,h1,h2⟩,h3⟩,h4,h5⟩:=h;exact⟨⟨D,⟨es,clock,hb.trans h1,h2⟩,h3⟩,h4,h5⟩
theorem CMap.lt(h:CMap w b n L):b<w.heap.size:=by
 obtain⟨⟨D,h1,_⟩,_⟩:=h;exact h1.lt
theorem CMap.mono(h:CMap w b n L){n':Nat}(hn:n<=n'):CMap w b n' L:=by
 obtain⟨D,h1,h2⟩:=h.own;exact⟨⟨D,h1.mono hn,h2⟩,h.ok,h.nodup⟩
theorem CMap.run_ok(h:CMap w b n L){t e:TypeId}(ht:Tryz.prog.underlying t=some (.map 89 e))(z:Value)(hz:(zeroValue e).run Tryz.prog w=.ok z w)(k:Ky)(hk:nC k):
 (Instr.lookup t (.map (some b)) (lQ k.1 k.2) true).run Tryz.prog w=.ok (.tuple #[(look L k).getD z,.bool (look L k).isSome]) w:=by
 obtain⟨⟨D,h1,h2,h3,h4⟩,h5,h6⟩:=h;obtain⟨kl,hkl⟩:=hk;obtain⟨u,ps,hrun,hu⟩:=h1.look_ok Ay ht hz (zd:=.held z) (zp:=[]) rfl hkl;obtain⟨e1,e2⟩:=h4 k kl hkl;rw[hrun,e1];rw[e2]at hu;unfold RV at hu;simp only[iS,Prod.mk.injEq]at hu;have:u=(look L k).getD z:=by
  cases hl:look L k with
  | none=>rw[hl]at hu;simpa using hu.1
  | some x=>rw[hl]at hu;simpa using hu.1
 rw[this]
theorem CMap.run_len(h:CMap w b n L){t e:TypeId}(ht:Tryz.prog.underlying t=some (.map 89 e))(ty:TypeId):(Builtin.len_ #[t] ty #[.map (some b)]).run Tryz.prog w=.ok (.int .i64 L.length) w:=by
 obtain⟨⟨D,h1,h2,h3,h4⟩,h5,h6⟩:=h;rw[h1.len ht,h2]
theorem CMap.run_put(h:CMap w b n L){t e:TypeId}(ht:Tryz.prog.underlying t=some (.map 89 e))(hn:n<maxLen)(k:Ky)(hk:nC k)(hnew:look L k=none)(x:Value):
 ∃w',(Instr.mapUpdate t (.map (some b)) (lQ k.1 k.2) x).run Tryz.prog w=.ok () w'/\CMap w' b (n+1) ((k,x)::L)/\w.grownBy w' (some b):=by
 obtain⟨⟨D,h1,h2,h3,h4⟩,h5,h6⟩:=h;obtain⟨kl,hkl⟩:=hk;obtain⟨w',hrun,r1,r2⟩:=h1.update Ay ht hn (val:=x) (d:=.held x) (ps:=[]) hkl rfl;refine⟨w',hrun,⟨⟨_,r1,?_,fun kl' hh=>?_,fun k' kl' hk'=>?_⟩,fun k' hk'=>?_,?_⟩,r2⟩
 ·rw[Maps.size_put (h1.tidy Ay),(h4 k kl hkl).1,hnew,h2];simp
 ·by_cases he:kl'=kl
  ·subst he;exact⟨k,hkl,by simp⟩
  ·rw[Maps.has_put_other he]at hh;obtain⟨k',e1,e2⟩:=h3 kl' hh;exact⟨k',e1,by rw[List.map_cons];exact mC _ e2⟩
 ·rw[bX];by_cases he:k=k'
  ·subst he;rw[hkl]at hk';cases hk';have hl:WideAt.IsKeyLit kl:=Ay.one.key ⟨_,hkl⟩;rw[if_pos rfl];exact⟨Maps.has_put_same h1.isMap hl _,fun zd=>Maps.atKey_put_same h1.isMap hl _ _⟩
  ·have hne:kl'≠kl:=fun e=>he (by
    subst e;exact Aw (Rj.inj hkl hk'))
   rw[if_neg he];exact⟨(Maps.has_put_other hne _).trans (h4 k' kl' hk').1,fun zd=>(Maps.atKey_put_other hne _ _).trans ((h4 k' kl' hk').2 zd)⟩
 ·rw[List.map_cons]at hk';rcases List.mem_cons.1 hk' with rfl | hk'
  ·exact⟨kl,hkl⟩
  ·exact h5 k' hk'
 ·rw[List.map_cons,List.nodup_cons];refine⟨fun hm=>?_,h6⟩;have:=fG.2 hm;rw[hnew]at this;simp at this
end Top
end
section
open Go.RowKit Go.Maps Go.WideMaps
namespace Top
inductive Ents (w:World) (B:Nat):List (Ky×Value)->List Pk->Prop
 | nil:Ents w B [] []
 | cons {p:Pk} {d1 d2 d3:Value} {L:List (Ky×Value)} {C:List Pk}:PkAt w B p d1 d2 d3->Ents w B L C->Ents w B ((p.key,iU p d1 d2 d3)::L) (p::C)
theorem Ents.len{w:World}{B:Nat}{L:List (Ky×Value)}{C:List Pk}(h:Ents w B L C):L.length=C.length:=by
 induction h with
 | nil=>rfl
 | cons _ _ ih=>simp[ih]
theorem Ents.keys{w:World}{B:Nat}{L:List (Ky×Value)}{C:List Pk}(h:Ents w B L C):L.map (·.1)=C.map Pk.key:=by
 induction h with
 | nil=>rfl
 | cons _ _ ih=>simp[ih]
theorem Ents.under{w w':World}{n B:Nat}{L:List (Ky×Value)}{C:List Pk}(h:Ents w B L C)(hb:Below n w w')(hB:B<=n):Ents w' B L C:=by
 induction h with
 | nil=>exact .nil
 | cons hp _ ih=>exact .cons (hp.below hb hB) ih
theorem Ents.mono{w:World}{B B':Nat}{L:List (Ky×Value)}{C:List Pk}(h:Ents w B L C)(hB:B<=B'):Ents w B' L C:=by
 induction h with
 | nil=>exact .nil
 | cons hp _ ih=>exact .cons (hp.mono hB) ih
theorem Ents.look{w:World}{B:Nat}{L:List (Ky×Value)}{C:List Pk}(h:Ents w B L C)(k:Ky):(∃p d1 d2 d3,bY C k=some p/\Top.look L k=some (iU p d1 d2 d3)/\PkAt w B p d1 d2 d3)\/(bY C k=none/\Top.look L k=none):=by
 induction h with
 | nil=>exact Or.inr ⟨rfl,rfl⟩
 | @cons p d1 d2 d3 L C hp _ ih=>
  rw[bX,Jc];by_cases hk:p.key=k
  ·rw[if_pos hk,if_pos hk];exact Or.inl ⟨p,d1,d2,d3,rfl,rfl,hp⟩
  ·rw[if_neg hk,if_neg hk];exact ih
theorem RowZ.grown{z:Nat}{w w':World}{B b:Nat}{v:Value}{xs:List (List Value)}(h:RowZ z w B v xs)(hg:w.grownBy w' (some b)){es:Array MapEntry}{c:Nat}(hb:w.heap[b]? =some (.map es c)):RowZ z w' B v xs:=by
 obtain⟨a,cap,rfl,hlc,hc⟩:=h.is;refine⟨a,cap,rfl,hlc,fun i x hx=>?_⟩;obtain⟨bk,o,ha,hk,hu⟩:=hc i x hx;refine⟨bk,o,ha,hk,fun j u hj=>?_⟩;have h0:=hu j u hj;rw[<-h0];refine World.cell?_of_block (hg.block bk (lt_of_cell h0) fun e=>?_);have:bk=b:=Option.some.inj e;subst this;unfold World.cell? at h0;rw[hb]at h0;simp at h0
theorem DpsAt.grown{w w':World}{B b:Nat}{v:Value}{l:List Dp}(h:DpsAt w B v l)(hg:w.grownBy w' (some b)){es:Array MapEntry}{c:Nat}(hb:w.heap[b]? =some (.map es c)):DpsAt w' B v l:=by
 obtain⟨cs,h1,h2,h3⟩:=h.is;exact⟨cs,h1,RowZ.grown h2 hg hb,fun i x c' hx hc=>RowZ.grown (h3 i x c' hx hc) hg hb⟩
theorem PkAt.grown{w w':World}{B b:Nat}{p:Pk}{d1 d2 d3:Value}(h:PkAt w B p d1 d2 d3)(hg:w.grownBy w' (some b)){es:Array MapEntry}{c:Nat}(hb:w.heap[b]? =some (.map es c)):PkAt w' B p d1 d2 d3:=⟨h.deps.grown hg hb,h.peers.grown hg hb,h.opts.grown hg hb⟩
theorem Ents.grown{w w':World}{B b:Nat}{L:List (Ky×Value)}{C:List Pk}(h:Ents w B L C)(hg:w.grownBy w' (some b)){es:Array MapEntry}{c:Nat}(hb:w.heap[b]? =some (.map es c)):Ents w' B L C:=by
 induction h with
 | nil=>exact .nil
 | cons hp _ ih=>exact .cons (hp.grown hg hb) ih
structure CatAt(w:World)(B s b:Nat)(C:List Pk):Prop where
 cell:w.cell? ⟨s,0,none⟩=some (.map (some b))
 ents:∃L n,n<=128/\CMap w b n L/\Ents w B L C
 sB:s<B
 bB:b<B
 size:C.length<=128
 pks:∀p∈C,Om p/\nC p.key
theorem CatAt.below{w w':World}{n B s b:Nat}{C:List Pk}(h:CatAt w B s b C)(hb:Below n w w')(hB:B<=n):CatAt w' B s b C:=by
 obtain⟨L,m,h1,h2,h3⟩:=h.ents;have:=h.sB;have:=h.bB;exact⟨(hb.cell (p:=⟨s,0,none⟩) (by show s<n;omega)).trans h.cell,⟨L,m,h1,h2.below hb (by omega),h3.under hb hB⟩,h.sB,h.bB,h.size,h.pks⟩
theorem CatAt.mono{w:World}{B B' s b:Nat}{C:List Pk}(h:CatAt w B s b C)(hB:B<=B'):CatAt w B' s b C:=by
 obtain⟨L,m,h1,h2,h3⟩:=h.ents;have:=h.sB;have:=h.bB;exact⟨h.cell,⟨L,m,h1,h2,h3.mono hB⟩,by omega,by omega,h.size,h.pks⟩
end Top
end
namespace Top
theorem lX{α:Type}[Inhabited α](lt:α->α->Bool){l:List α}(h:l.length<=1):(Stab.sort lt l.toArray).toList=l:=by
 have hp:=jA lt l
 match l,h with
 | [],_=>exact List.perm_nil.1 hp
 | [x],_=>exact List.perm_singleton.1 hp
theorem xO{α:Type}(lt:α->α->Bool){l:List α}(h:l.length<=1):l.mergeSort lt=l:=by
 have hp:=List.mergeSort_perm l lt
 match l,h with
 | [],_=>exact List.perm_nil.1 hp
 | [x],_=>exact List.perm_singleton.1 hp
namespace Lives
def nA:List UInt8:=[97]
def nB:List UInt8:=[98]
def one:Ve:=⟨1,0,0⟩
def every:List Sp:=[⟨v0,⟨999,999,999⟩⟩]
def pA:Pk:=⟨nA,one,[⟨nB,every⟩],[],[]⟩
def pB:Pk:=⟨nB,one,[],[],[]⟩
def C:List Pk:=[pB,pA]
def M:Mf:=⟨[⟨nA,every⟩],[],[],[]⟩
def P:Pb:=gY C M true []
def gr:List Nd:=[⟨[],v0,[],[⟨nA,1⟩]⟩,⟨nA,one,[],[⟨nB,2⟩]⟩,⟨nB,one,[],[]⟩]
def wA:Wt:=⟨nA,1,every⟩
def wB:Wt:=⟨nB,1,every⟩
def Fj:Nd:=⟨nA,one,[],[]⟩
def Sj:Nd:=⟨nB,one,[],[]⟩
theorem inE:gI every one=true:=by decide
theorem Ui(x:Nd):P.own 0 x=[wA]:=by
 show iP M [M.deps,M.dev] M.opts=_;unfold iP;rw[lX _ (by decide)];rfl
theorem Uh:P.own 1 Fj=[wB]:=by
 show iP M [pA.deps] pA.opts=_;unfold iP;rw[lX _ (by decide)];rfl
theorem Vi:P.own 2 Sj=[]:=by
 show iP M [pB.deps] pB.opts=_;unfold iP;rw[lX _ (by decide)];rfl
theorem Ut:P.cands nA every=[one]:=by
 show bG C [] nA every=_;unfold bG aW;have e:(C.filter fun p=>p.name==nA).map (·.v)=[one]:=by decide
 rw[e,xO _ (by decide),List.filter_cons,if_pos inE,List.filter_nil,lX _ (by decide)]
theorem Us:P.cands nB every=[one]:=by
 show bG C [] nB every=_;unfold bG aW;have e:(C.filter fun p=>p.name==nB).map (·.v)=[one]:=by decide
 rw[e,xO _ (by decide),List.filter_cons,if_pos inE,List.filter_nil,lX _ (by decide)]
theorem ch0:aK P 0 [] wA=⟨0,nA,[one],false,0⟩:=by
 unfold aK;show(⟨0,nA,P.cands nA every,false,0⟩:Ch)=_;rw[Ut]
theorem ch1:aK P 1 [] wB=⟨1,nB,[one],false,0⟩:=by
 unfold aK;show(⟨1,nB,P.cands nB every,false,0⟩:Ch)=_;rw[Us]
theorem Uw:dD P 9 [] [⟨0,nA,[one],false,0⟩] [nd0]=.ok [nd0,Fj] [⟨nA,1⟩]:=by rfl
theorem Uv:dD P 9 [] [⟨1,nB,[one],false,0⟩] [nd0,Fj]=.ok [nd0,Fj,Sj] [⟨nB,2⟩]:=by rfl
theorem Uu:dD P 9 [] [] [nd0,Fj,Sj]=.ok [nd0,Fj,Sj] []:=by rfl
theorem ends:Ends P 9 9 .next St.start 0 (.ok gr 2):=by
 refine .push _ _ _ wA (by show(P.own 0 _)[0]? =_;rw[Ui];rfl) ?_;have e0:St.push P St.start wA=⟨[⟨0,nA,[one],false,0⟩],[nd0],[],[]⟩:=by
  show(⟨[aK P 0 [] wA],[nd0],[],[]⟩:St)=_;rw[ch0]
 rw[e0];refine .take _ _ _ [] _ rfl (by decide) (by decide) ?_;refine .on _ _ _ [nd0,Fj] [⟨nA,1⟩] (by show(P.own 0 _).length<=_;rw[Ui];decide) Uw (by decide) ?_;refine .push _ _ _ wB (by show(P.own 1 Fj)[0]? =_;rw[Uh];rfl) ?_;have e1:St.push P (St.bind ⟨[⟨0,nA,[one],false,0⟩],[nd0],[],[]⟩ [nd0,Fj] [⟨nA,1⟩]) wB=⟨[⟨0,nA,[one],false,0⟩,⟨1,nB,[one],false,0⟩],[nd0,Fj],[1],[[⟨nA,1⟩]]⟩:=by
  show(⟨[⟨0,nA,[one],false,0⟩,aK P 1 [] wB],[nd0,Fj],[1],[[⟨nA,1⟩]]⟩:St)=_;rw[ch1]
 rw[e1];refine .take _ _ _ [⟨0,nA,[one],false,0⟩] ⟨1,nB,[one],false,0⟩ rfl (by decide) (by decide) ?_;refine .on _ _ _ [nd0,Fj,Sj] [⟨nB,2⟩] (by show(P.own 1 Fj).length<=_;rw[Uh];decide) Uv (by decide) ?_;exact .done _ _ [nd0,Fj,Sj] [] (by show(P.own 2 Sj).length<=_;rw[Vi];decide) Uu (by decide)
theorem fine:Fine C M:=by
 refine⟨fun p hp=>?_,by unfold Names;decide⟩;simp only[C,List.mem_cons,List.not_mem_nil,or_false]at hp;rcases hp with rfl | rfl<;>(unfold Names;decide)
theorem checks:Checks P (bA C) gr/\gr.length<=9:=Ends.solved (yX fine true []) (by decide) ends (Inv.start _ _ (by decide)) (nE.start _) gr 2 rfl
theorem only{r:Res}(h:Ends P 9 9 .next St.start 0 r):r=.ok gr 2:=h.one _ ends
end Lives
end Top
section
open Top
theorem aT{A B:List UInt8}(h:A.length+B.length<=1000000):∀w,(Op.stringOp .add (bs A) (bs B)).run Tryz.prog w=.ok (.string (bs (A++B))) w:=fun w=>by
 rw[Tt];exact run_string_add_sum w _ _ (by rw[eT,eT];omega)
theorem zZ(w:World)(v:Value)(l:List Sp)(h:iH w w.heap.size v l)(hm:dE l=true)(hn:l.length<=64):
 Calls Tryz.prog 153 #[v] w fun e w'=>e=.returned (.string (bs (jF l)))/\Below w.heap.size w w':=by
 obtain⟨a0,cap0,hv0⟩:=iH.form h;have hmay:=uS w v l h (by omega);rw[hm]at hmay;obtain⟨N,hN⟩:=ex (l.length);rw[<-hN]at hv0 hn;subst hv0;have HMAY:=Hd hmay;have HN:=Hd hN;have HH:=Hd h;clear h hm hmay hN;go_enter Tryz.func153,Tryz.ntmps153;go_wp2_with fail;refine HMAY.out.mono ?_;rintro e w0 ⟨rfl,hb0⟩;have HB0:=Hd hb0;clear hb0;by_cases hn0:N=0
 ·subst hn0;have HT:Hid (jF l=[60,48,46,48,46,48]):=Hd (by
   have:l=[]:=List.length_eq_zero_iff.1 HN.out.symm;rw[this];rfl)
  go_wp2;go_returns;exact⟨by rw[HT.out];rfl,HB0.out⟩
 ·have hnz:¬(N:Int)=0:=by omega
  have hnb:((N:Int)==0)=false:=beq_eq_false_iff_ne.2 hnz;have hE:Hid (Value.string ⟨#[]⟩=Value.string (bs (kP (l.take 0)))):=Hd rfl;go_wp2_with fail;go_loopw [4,3] (fun x1 x2 wr=>∃i:Nat,x1=.int .i64 i/\x2=.string (bs (kP (l.take i)))/\i<=N/\Below w.heap.size w wr) (fun x1 _ _=>N-(intOf x1).toNat);case atStart=>exact⟨0,rfl,hE.out,Nat.zero_le _,HB0.out⟩
  case round=>
   obtain⟨wo,rfl⟩:∃y,y=wr:=⟨wr,rfl⟩;obtain⟨i,rfl,rfl,hi,hb⟩:=hrel;have HB:=Hd hb;by_cases hiN:i<N
   ·have hiz:(i:Int)<(N:Int):=by omega
    obtain⟨x,hx⟩:∃x,l[i]? =some x:=⟨_,gE (by rw[<-HN.out];exact hiN)⟩;obtain⟨bk,o,cap,hve,_,hbk,hat⟩:=HH.out.at (by rw[<-HN.out];omega);have ha0:a0=some ⟨bk,o,none⟩:=by injection hve
    subst ha0;have hcell:∀W,Below w.heap.size w W->W.cell? ⟨bk,o+i*6,none⟩=some (.int .i64 x.lo.a)/\W.cell? ⟨bk,o+i*6+1,none⟩=some (.int .i64 x.lo.b)/\W.cell? ⟨bk,o+i*6+2,none⟩=some (.int .i64 x.lo.c)/\W.cell? ⟨bk,o+i*6+3,none⟩=some (.int .i64 x.hi.a)/\W.cell? ⟨bk,o+i*6+4,none⟩=some (.int .i64 x.hi.b)/\W.cell? ⟨bk,o+i*6+5,none⟩=some (.int .i64 x.hi.c):=fun W hW=>by
     obtain⟨q0,q1,q2,q3,q4,q5⟩:=hat i x hx;exact⟨(hW.cell (p:=⟨bk,o+i*6,none⟩) hbk).trans q0,(hW.cell (p:=⟨bk,o+i*6+1,none⟩) hbk).trans q1,(hW.cell (p:=⟨bk,o+i*6+2,none⟩) hbk).trans q2,(hW.cell (p:=⟨bk,o+i*6+3,none⟩) hbk).trans q3,(hW.cell (p:=⟨bk,o+i*6+4,none⟩) hbk).trans q4,(hW.cell (p:=⟨bk,o+i*6+5,none⟩) hbk).trans q5⟩
    obtain⟨c0,c1,c2,c3,c4,c5⟩:=hcell wo hb;have hol:=uU (l.take i);have htl:(l.take i).length<=64:=by rw[List.length_take];omega
    obtain⟨O,hO⟩:=ex (kP (l.take i));rw[<-hO]at hol |-;have HCELL:=Hd hcell;have hsnoc:kP (l.take (i+1))=if l.take i=[]then x.txt else O++sJ++x.txt:=by rw[List.take_add_one,hx,hO];exact xG _ _
    by_cases hi0:i=0;obtain⟨O1,hO1⟩:=ex (O);have HNX:Hid (kP (l.take (i+1))=O1++x.txt):=Hd (by
     rw[hsnoc,if_pos (by rw[hi0];rfl),hO1,hO,hi0];rfl)
    rw[<-hO1]at hol |-;have hiz0:¬(0:Int)<(i:Int):=by omega
    have hol1:O1.length<=2000:=by omega
    clear hcell hat hx hb hve hO hsnoc hO1 hi0
    rotate_left
    obtain⟨O1,hO1⟩:=ex (O++sJ);have HNX:Hid (kP (l.take (i+1))=O1++x.txt):=Hd (by
     rw[hsnoc,if_neg (fun e=>by
      have h1:=congrArg List.length e;rw[List.length_take,lN]at h1;have:=HN.out;omega),hO1])
    have eS:∀w,(Op.stringOp .add (bs O) ⟨#[32,124,124,32]⟩).run Tryz.prog w=.ok (.string (bs O1)) w:=by
     rw[hO1];exact aT (A:=O) (B:=sJ) (by have:sJ.length=4:=rfl;omega)
    have hiz0:(0:Int)<(i:Int):=by omega
    have hol1:O1.length<=2000:=by rw[hO1,lA];have:sJ.length=4:=rfl;omega
    clear hcell hat hx hb hve hO hsnoc hO1
    rotate_left
    all_goals
     have hl1:=iK x.lo;have hl2:=iK x.hi;obtain⟨lt,hlt⟩:=ex (x.lo.txt);obtain⟨ht,hht⟩:=ex (x.hi.txt);rw[<-hlt]at hl1;rw[<-hht]at hl2;have HLT:=Hd hlt;have HHT:=Hd hht;have eLo:=aT (A:=[62,61]) (B:=lt) (by simp;omega);have eHi:=aT (A:=[60,61]) (B:=ht) (by simp;omega);have eA:=aT (A:=O1) (B:=lt) (by omega);have eB:=aT (A:=O1) (B:=[42]) (by simp;omega);have eC:=aT (A:=O1) (B:=[60,61]++ht) (by simp;omega);have eD:=aT (A:=O1) (B:=[62,61]++lt) (by simp;omega);have eE:=aT (A:=O1++([62,61]++lt)) (B:=[32]) (by simp;omega);have eF:=aT (A:=O1++([62,61]++lt)++[32]) (B:=[60,61]++ht) (by simp;omega);obtain⟨lo',hlo'⟩:=ex ([62,61]++lt);obtain⟨hi',hhi'⟩:=ex ([60,61]++ht);rw[<-hlo']at eLo eD eE eF;rw[<-hhi']at eHi eC eF;have eF':∀w,(Op.stringOp .add (bs (O1++(lo'++[32]))) (bs hi')).run Tryz.prog w=.ok (.string (bs (O1++(lo'++[32])++hi'))) w:=by rw[<-List.append_assoc];exact eF
     have HLO:=Hd hlo';have HHI:=Hd hhi';have eLo':∀w,(Op.stringOp .add ⟨#[62,61]⟩ (bs lt)).run Tryz.prog w=.ok (.string (bs lo')) w:=eLo;have eHi':∀w,(Op.stringOp .add ⟨#[60,61]⟩ (bs ht)).run Tryz.prog w=.ok (.string (bs hi')) w:=eHi;have eB':∀w,(Op.stringOp .add (bs O1) ⟨#[42]⟩).run Tryz.prog w=.ok (.string (bs (O1++[42]))) w:=eB;have eE':∀w,(Op.stringOp .add (bs (O1++lo')) ⟨#[32]⟩).run Tryz.prog w=.ok (.string (bs (O1++lo'++[32]))) w:=eE;have HPL:Hid (∀W,Calls Tryz.prog 113 #[.agg #[.int .i64 x.lo.a,.int .i64 x.lo.b,.int .i64 x.lo.c]] W fun e w'=>e=.returned (.string (bs lt))/\Below W.heap.size W w'):=Hd (fun W=>by rw[hlt,rX];exact VL.oN x.lo.a x.lo.b x.lo.c W);have HPH:Hid (∀W,Calls Tryz.prog 113 #[.agg #[.int .i64 x.hi.a,.int .i64 x.hi.b,.int .i64 x.hi.c]] W fun e w'=>e=.returned (.string (bs ht))/\Below W.heap.size W w'):=Hd (fun W=>by rw[hht,rX];exact VL.oN x.hi.a x.hi.b x.hi.c W)
     obtain⟨r1,hr1⟩:=ex (x.lo.rank);obtain⟨r2,hr2⟩:=ex (x.hi.rank);have HRL:Hid (∀W,Calls Tryz.prog 151 #[.agg #[.int .i64 x.lo.a,.int .i64 x.lo.b,.int .i64 x.lo.c]] W fun e w'=>e=.returned (.int .i64 r1)/\Below W.heap.size W w'):=Hd (fun W=>by rw[hr1];exact jC x.lo.a x.lo.b x.lo.c W);have HRH:Hid (∀W,Calls Tryz.prog 151 #[.agg #[.int .i64 x.hi.a,.int .i64 x.hi.b,.int .i64 x.hi.c]] W fun e w'=>e=.returned (.int .i64 r2)/\Below W.heap.size W w'):=Hd (fun W=>by rw[hr2];exact jC x.hi.a x.hi.b x.hi.c W);have HR1:=Hd hr1;have HR2:=Hd hr2;clear hlt hht hlo' hhi' eLo eHi eB eE eF hr1 hr2;go_wp2_with fail;refine(HPL.out _).mono ?_;rintro e w1 ⟨rfl,hb1⟩;have HB1:Hid (Below w.heap.size w w1):=Hd (HB.out.trans (hb1.mono HB.out.size));obtain⟨c0,c1,c2,c3,c4,c5⟩:=HCELL.out w1 HB1.out;clear hb1;go_wp2_with fail;refine(HPH.out _).mono ?_
     rintro e w2 ⟨rfl,hb2⟩;have HB2:Hid (Below w.heap.size w w2):=Hd (HB1.out.trans (hb2.mono HB1.out.size));clear c0 c1 c2 c3 c4 c5 hb2;obtain⟨c0,c1,c2,c3,c4,c5⟩:=HCELL.out w2 HB2.out;go_wp2_with fail;refine(HRL.out _).mono ?_;rintro e w3 ⟨rfl,hb3⟩;have HB3:Hid (Below w.heap.size w w3):=Hd (HB2.out.trans (hb3.mono HB2.out.size));clear c0 c1 c2 c3 c4 c5 hb3;obtain⟨c0,c1,c2,c3,c4,c5⟩:=HCELL.out w3 HB3.out;go_wp2_with fail;refine(HRH.out _).mono ?_;rintro e w4 ⟨rfl,hb4⟩;have HB4:Hid (Below w.heap.size w w4):=Hd (HB3.out.trans (hb4.mono HB3.out.size));clear c0 c1 c2 c3 c4 c5 hb4;have k16:=HCELL.out w4 HB4.out;cases hv:VL.V.same x.lo.a x.lo.b x.lo.c x.hi.a x.hi.b x.hi.c
     ·have HNE:Hid (¬x.lo=x.hi):=Hd (fun e=>by rw[e]at hv;simp[VL.V.same]at hv);go_upto_region 16 with fail;refine rG (fun w'=>w'.cell? ⟨bk,o+i*6,none⟩=some (.int .i64 x.lo.a)/\w'.cell? ⟨bk,o+i*6+1,none⟩=some (.int .i64 x.lo.b)/\w'.cell? ⟨bk,o+i*6+2,none⟩=some (.int .i64 x.lo.c)/\w'.cell? ⟨bk,o+i*6+3,none⟩=some (.int .i64 x.hi.a)/\w'.cell? ⟨bk,o+i*6+4,none⟩=some (.int .i64 x.hi.b)/\w'.cell? ⟨bk,o+i*6+5,none⟩=some (.int .i64 x.hi.c)) k16 fun hU=>?_;refine aM [0,1,2,3,4,5,6,7,8,9,10,11] ?_;refine dN ?_;have HB5:Hid (Below w.heap.size w w4.drew):=Hd HB4.out.drew;by_cases p1:r1=0
      ·have p1b:(r1==0)=true:=beq_iff_eq.2 p1;have P1:Hid (x.lo.rank=0):=Hd (by rw[<-HR1.out];exact p1);by_cases p2:r2=999999999
       ·have p2b:(r2==999999999)=true:=beq_iff_eq.2 p2;have P2:Hid (x.hi.rank=999999999):=Hd (by rw[<-HR2.out];exact p2);clear p1 p2;go_wp2;go_roundw;case rel=>exact⟨i+1,by go_num,by rw[HNX.out];exact congrArg (fun z=>Value.string (bs (O1++z))) (by unfold Sp.txt;rw[if_neg HNE.out,if_pos ⟨P1.out,P2.out⟩]),by omega,HB5.out⟩
        case measure=>simp[intOf];omega
       ·have p2b:(r2==999999999)=false:=beq_eq_false_iff_ne.2 p2;have P2:Hid (¬x.hi.rank=999999999):=Hd (by rw[<-HR2.out];exact p2);clear p1;go_wp2;go_roundw;case rel=>exact⟨i+1,by go_num,by rw[HNX.out];exact congrArg (fun z=>Value.string (bs (O1++z))) (by unfold Sp.txt;rw[if_neg HNE.out,if_neg (fun h=>P2.out h.2),if_pos P1.out,HHI.out,HHT.out]),by omega,HB5.out⟩
        case measure=>simp[intOf];omega
      ·have p1b:(r1==0)=false:=beq_eq_false_iff_ne.2 p1;have P1:Hid (¬x.lo.rank=0):=Hd (by rw[<-HR1.out];exact p1);by_cases p2:r2=999999999
       ·have p2b:(r2==999999999)=true:=beq_iff_eq.2 p2;have P2:Hid (x.hi.rank=999999999):=Hd (by rw[<-HR2.out];exact p2);clear p2;go_wp2;go_roundw;case rel=>exact⟨i+1,by go_num,by rw[HNX.out];exact congrArg (fun z=>Value.string (bs (O1++z))) (by unfold Sp.txt;rw[if_neg HNE.out,if_neg (fun h=>P1.out h.1),if_neg P1.out,if_pos P2.out,HLO.out,HLT.out]),by omega,HB5.out⟩
        case measure=>simp[intOf];omega
       ·have p2b:(r2==999999999)=false:=beq_eq_false_iff_ne.2 p2;have P2:Hid (¬x.hi.rank=999999999):=Hd (by rw[<-HR2.out];exact p2);go_wp2;go_roundw;case rel=>exact⟨i+1,by go_num,by rw[HNX.out,HLO.out,HHI.out,HLT.out,HHT.out];unfold Sp.txt;rw[if_neg HNE.out,if_neg (fun h=>P1.out h.1),if_neg P1.out,if_neg P2.out];simp,by omega,HB5.out⟩
        case measure=>simp[intOf];omega
     ·have HEQ:Hid (x.lo=x.hi):=Hd (by
       have h1:=hv;simp only[VL.V.same,Bool.and_eq_true,decide_eq_true_eq]at h1;have e1:x.lo=⟨x.lo.a,x.lo.b,x.lo.c⟩:=rfl;rw[e1];simp[h1])
      go_upto_region 16 with fail;refine rG (fun w'=>w'.cell? ⟨bk,o+i*6,none⟩=some (.int .i64 x.lo.a)/\w'.cell? ⟨bk,o+i*6+1,none⟩=some (.int .i64 x.lo.b)/\w'.cell? ⟨bk,o+i*6+2,none⟩=some (.int .i64 x.lo.c)/\w'.cell? ⟨bk,o+i*6+3,none⟩=some (.int .i64 x.hi.a)/\w'.cell? ⟨bk,o+i*6+4,none⟩=some (.int .i64 x.hi.b)/\w'.cell? ⟨bk,o+i*6+5,none⟩=some (.int .i64 x.hi.c)) k16 fun hU=>?_;refine aM [0,1,2,3,4,5,6,7,8,9,10,11] ?_;refine dN ?_;have HB5:Hid (Below w.heap.size w w4.drew):=Hd HB4.out.drew;obtain⟨c0,c1,c2,c3,c4,c5⟩:=HCELL.out w4.drew HB5.out;go_wp2_with fail;refine(HPL.out _).mono ?_;rintro e w6 ⟨rfl,hb6⟩;have HB6:Hid (Below w.heap.size w w6):=Hd (HB5.out.trans (hb6.mono HB5.out.size));clear c0 c1 c2 c3 c4 c5 hb6;go_wp2;go_roundw;case rel=>exact⟨i+1,by go_num,by rw[HNX.out];exact congrArg (fun z=>Value.string (bs (O1++z))) (by unfold Sp.txt;rw[if_pos HEQ.out,HLT.out]),by omega,HB6.out⟩
      case measure=>simp[intOf];omega
   ·have hiz:¬(i:Int)<(N:Int):=by omega
    have HT:Hid (kP (l.take i)=jF l):=Hd (by
     rw[List.take_of_length_le (by rw[<-HN.out];omega)];unfold jF;rw[if_neg (fun e=>hn0 (by rw[HN.out,e];rfl))])
    clear hb;go_wp2;go_returns;exact⟨by rw[<-HT.out];rfl,HB.out⟩
end
end Go.Proofs.YtcohlmdnahdnaaaGreatDoor
