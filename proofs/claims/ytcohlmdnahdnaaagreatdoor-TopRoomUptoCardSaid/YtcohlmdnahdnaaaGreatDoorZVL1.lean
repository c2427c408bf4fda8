/- Plans: what their texts and their checks answer (part 1). -/
import Derived.WalkLawsBesides
import Derived.Outline
import Derived.Deep.QuietTactic
import Derived.BigQuiet
import Derived.Laws.StructEq
import Derived.Lib.ConvBytes
import Derived.Deep.RegionWith
import Derived.StillTailTactics
import Derived.RegionTactic
import Derived.Deep.Quiet
import Derived.Test.YtcohlmdnahdnaaaGreatDoorZAl
namespace Go.Proofs.YtcohlmdnahdnaaaGreatDoor
open Go.RowKit
set_option linter.unusedVariables false
set_option linter.unusedSimpArgs false
set_option maxHeartbeats 16000000
set_option maxRecDepth 100000
namespace VL
namespace V
def may(a b c:Int):Bool:=decide (0<=a)&&decide (a<=999)&&(decide (0<=b)&&decide (b<=999))&&(decide (0<=c)&&decide (c<=999))
theorem gU{a b c:Int}:may a b c=true↔(0<=a/\a<=999)/\(0<=b/\b<=999)/\(0<=c/\c<=999):=by
 simp[may];omega
theorem Sk{a b c:Int}(h:(0<=a/\a<=999)/\(0<=b/\b<=999)/\(0<=c/\c<=999)):may a b c=true:=gU.2 h
theorem Pv{a b c:Int}(h:¬((0<=a/\a<=999)/\(0<=b/\b<=999)/\(0<=c/\c<=999))):may a b c=false:=by
 cases e:may a b c
 ·rfl
 ·exact absurd (gU.1 e) h
end V
end VL
namespace VL
theorem below_drewN{B:Nat}{a w:World}(h:Below B a w)(n:Nat):Below B a (w.drewN n):=⟨h.os,h.tape,h.output,h.size,h.block⟩
theorem Bp{W w1:World}(hb:Below W.heap.size W w1):(∀b o,b<W.heap.size->w1.cell? ⟨b,o,none⟩=W.cell? ⟨b,o,none⟩)/\(∀b o,b<W.heap.size->w1.frozen? ⟨b,o,none⟩=W.frozen? ⟨b,o,none⟩):=
 ⟨fun b o h=>hb.cell (p:=⟨b,o,none⟩) h,fun b o h=>hb.frozen (p:=⟨b,o,none⟩) h⟩
theorem mE{a b:Bool}(h:a=b):Ending.returned (.bool a)=.returned (.bool b):=by rw[h]
theorem Fe{k:IntKind}{a b:Int}(h:a=b):Ending.returned (.int k a)=.returned (.int k b):=by rw[h]
theorem Ls(a:Int)(w:World):
 Calls Tryz.prog 110 #[.int .i64 a] w fun e w'=>e=.returned (.bool (decide (0<=a)&&decide (a<=999)))/\w=w':=by
 by_cases h:0<=a
 all_goals
  go_enter Tryz.func110,Tryz.ntmps110;go_wp2;go_ret;exact⟨mE (by rw[Bool.eq_iff_iff];simp;omega),rfl⟩
theorem nR(a b c:Int)(w:World):
 Calls Tryz.prog 56 #[.agg #[.int .i64 a,.int .i64 b,.int .i64 c]] w fun e w'=>e=.returned (.bool (V.may a b c))/\Below w.heap.size w w':=by
 have i0:∀w,(Instr.index 178 (.agg #[.int .i64 a,.int .i64 b,.int .i64 c]) (.int .i64 0)).run Tryz.prog w=.ok (.int .i64 a) w:=fun _=>by kernel_rfl
 have i1:∀w,(Instr.index 178 (.agg #[.int .i64 a,.int .i64 b,.int .i64 c]) (.int .i64 1)).run Tryz.prog w=.ok (.int .i64 b) w:=fun _=>by kernel_rfl
 have i2:∀w,(Instr.index 178 (.agg #[.int .i64 a,.int .i64 b,.int .i64 c]) (.int .i64 2)).run Tryz.prog w=.ok (.int .i64 c) w:=fun _=>by kernel_rfl
 go_enter Tryz.func56,Tryz.ntmps56;go_wp2;go_rounds 4;all_goals go_returns
 all_goals refine⟨?_,by go_grown⟩
 all_goals first | exact mE (V.Sk (by omega)).symm | exact mE (V.Pv (by omega)).symm
theorem jE(a b c:Int)(w:World):
 Calls Tryz.prog 62 #[.agg #[.int .i64 a,.int .i64 b,.int .i64 c]] w fun e w'=>e=.returned (.bool (V.may a b c))/\Below w.heap.size w w':=by
 go_enter Tryz.func62,Tryz.ntmps62;go_wp2_with (first | (go_at_call 110;refine(Ls _ _).mono ?_;rintro e w' ⟨rfl,rfl⟩));all_goals go_returns
 all_goals refine⟨?_,by go_grown⟩
 all_goals exact mE (by rw[Bool.eq_iff_iff];simp[V.may];omega)
end VL
namespace VL
theorem iM{a b:Int}{x y:Bool}(h:a=b)(k:x=y):Ending.returned (.tuple #[.int .i64 a,.bool x])=.returned (.tuple #[.int .i64 b,.bool y]):=by rw[h,k]
theorem Fb{a b c a' b' c':Int}{x y:Bool}(h1:a=a')(h2:b=b')(h3:c=c')(k:x=y):Ending.returned (.tuple #[.agg #[.int .i64 a,.int .i64 b,.int .i64 c],.bool x])=.returned (.tuple #[.agg #[.int .i64 a',.int .i64 b',.int .i64 c'],.bool y]):=by rw[h1,h2,h3,k]
def V.rank(a b c:Int):Int:=if V.may a b c=true then(a*1000+b)*1000+c else 0
theorem V.rank_yes{a b c:Int}(h:V.may a b c=true):V.rank a b c=(a*1000+b)*1000+c:=if_pos h
theorem V.rank_no{a b c:Int}(h:V.may a b c=false):V.rank a b c=0:=if_neg (by rw[h];exact Bool.false_ne_true)
theorem qC(a b c:Int)(w:World):
 Calls Tryz.prog 115 #[.agg #[.int .i64 a,.int .i64 b,.int .i64 c]] w fun e w'=>e=.returned (.tuple #[.int .i64 (V.rank a b c),.bool (V.may a b c)])/\Below w.heap.size w w':=by
 by_cases h:V.may a b c=true
 ·have hb:=V.gU.1 h;have hr:=Hd (V.rank_yes h);have H:=Hd h;clear h;go_enter Tryz.func115,Tryz.ntmps115;go_wp2_with fail;refine(nR _ _ _ _).mono ?_;rintro e w1 ⟨rfl,hb1⟩;rw[H.out];obtain⟨hc,hf⟩:=Bp hb1;have hz:=hb1.size;simp at hz;go_wp2;go_returns;exact⟨iM hr.out.symm H.out.symm,by refine Below.trans ?_ (hb1.mono ?_)<;>go_grown⟩
 ·have H:=Hd (Bool.eq_false_iff.2 h);have hr:=Hd (V.rank_no H.out);clear h;go_enter Tryz.func115,Tryz.ntmps115;go_wp2_with fail;refine(nR _ _ _ _).mono ?_;rintro e w1 ⟨rfl,hb1⟩;rw[H.out];go_wp2;go_returns;exact⟨iM hr.out.symm H.out.symm,by refine Below.trans ?_ (hb1.mono ?_)<;>go_grown⟩
theorem Gz(a b c:Int)(w:World):
 Calls Tryz.prog 189 #[.agg #[.int .i64 a,.int .i64 b,.int .i64 c]] w fun e w'=>e=.returned (.tuple #[.int .i64 (V.rank a b c),.bool (V.may a b c)])/\Below w.heap.size w w':=by
 by_cases h:V.may a b c=true
 ·have hb:=V.gU.1 h;have hr:=Hd (V.rank_yes h);have H:=Hd h;clear h;go_enter Tryz.func189,Tryz.ntmps189;go_wp2_with fail;refine(jE _ _ _ _).mono ?_;rintro e w1 ⟨rfl,hb1⟩;rw[H.out];obtain⟨hc,hf⟩:=Bp hb1;have hz:=hb1.size;simp at hz;go_wp2;go_returns;exact⟨iM hr.out.symm H.out.symm,by refine Below.trans ?_ (hb1.mono ?_)<;>go_grown⟩
 ·have H:=Hd (Bool.eq_false_iff.2 h);have hr:=Hd (V.rank_no H.out);clear h;go_enter Tryz.func189,Tryz.ntmps189;go_wp2_with fail;refine(jE _ _ _ _).mono ?_;rintro e w1 ⟨rfl,hb1⟩;rw[H.out];go_wp2;go_returns;exact⟨iM hr.out.symm H.out.symm,by refine Below.trans ?_ (hb1.mono ?_)<;>go_grown⟩
def V.atOk(n:Int):Bool:=decide (0<=n)&&decide (n<=999999999)
theorem V.atOk_iff{n:Int}:V.atOk n=true↔0<=n/\n<=999999999:=by simp[V.atOk]
def V.atA(n:Int):Int:=if V.atOk n=true then n/1000000 else 0
def V.atB(n:Int):Int:=if V.atOk n=true then n/1000%1000 else 0
def V.atC(n:Int):Int:=if V.atOk n=true then n%1000 else 0
theorem V.at_no{n:Int}(h:V.atOk n=false):V.atA n=0/\V.atB n=0/\V.atC n=0:=by simp[V.atA,V.atB,V.atC,h]
theorem V.at_yes{n:Int}(h:V.atOk n=true):V.atA n=n/1000000/\V.atB n=n/1000%1000/\V.atC n=n%1000:=by simp[V.atA,V.atB,V.atC,h]
theorem Oh(n:Int)(w:World):
 Calls Tryz.prog 119 #[.int .i64 n] w fun e w'=>e=.returned (.tuple #[.agg #[.int .i64 (V.atA n),.int .i64 (V.atB n),.int .i64 (V.atC n)],.bool (V.atOk n)])/\Below w.heap.size w w':=by
 by_cases h:V.atOk n=true
 ·have hb:=V.atOk_iff.1 h;have hr:=Hd (V.at_yes h);have H:=Hd h;clear h;go_enter Tryz.func119,Tryz.ntmps119;go_wp2;go_returns;exact⟨Fb (by have:=hr.out.1;omega) (by have:=hr.out.2.1;omega) (by have:=hr.out.2.2;omega) H.out.symm,by go_grown⟩
 ·have hr:=Hd (V.at_no (Bool.eq_false_iff.2 h));have H:=Hd (Bool.eq_false_iff.2 h);have hb:¬(0<=n/\n<=999999999):=fun hh=>h (V.atOk_iff.2 hh);clear h;by_cases h0:n<0
  all_goals
   go_enter Tryz.func119,Tryz.ntmps119;go_wp2;go_returns;exact⟨Fb hr.out.1.symm hr.out.2.1.symm hr.out.2.2.symm H.out.symm,by go_grown⟩
end VL
namespace VL
theorem wX:Tryz.prog.underlying 50=some (.struct (Tryz.prog.fieldsOf 50)):=by kernel_rfl
theorem wY:(Tryz.prog.fieldsOf 50).toList.map (fun f=>(f.name,f.type,f.offset))=[("Major",3,0),("Minor",3,1),("Patch",3,2)]:=by kernel_rfl
def V.same(a b c a' b' c':Int):Bool:=decide (a=a')&&(decide (b=b')&&decide (c=c'))
@[go_sem high] theorem Ua(w:World)(x y:Operand)(xs ys:Array Value):(eqGuard .eql 50 x y (.agg xs) (.agg ys)).run Tryz.prog w=.ok () w:=
 run_eqGuard_agg w .eql 50 x y xs ys (by kernel_rfl)
theorem uL(w:World)(a b c a' b' c':Int):(Op.equalIn 10000 50 (.agg #[.int .i64 a,.int .i64 b,.int .i64 c]) (.agg #[.int .i64 a',.int .i64 b',.int .i64 c'])).run Tryz.prog w=.ok (V.same a b c a' b' c') w:=by
 have hs:=wY;have e:∀w (a b:Int),(Op.equalIn 9999 3 (.int .i64 a) (.int .i64 b)).run Tryz.prog w=.ok (a==b) w:=fun w a b=>run_equalIn_int w 9998 3 _ _ a b Tryz.underlying3;rw[run_equalIn_agg w 9999 50 _ _ wX (by kernel_rfl)];generalize (Tryz.prog.fieldsOf 50).toList=fs at hs;rcases fs with _ | ⟨f,_ | ⟨g,_ | ⟨h,_ | ⟨k,l⟩⟩⟩⟩
 case cons.cons.cons.nil=>
  simp only[List.map_cons,List.map_nil,List.cons.injEq,Prod.mk.injEq,and_true]at hs;obtain⟨⟨n1,t1,o1⟩,⟨n2,t2,o2⟩,⟨n3,t3,o3⟩⟩:=hs
  by_cases ha:a=a'<;>by_cases hb:b=b'<;>by_cases hc:c=c'<;>
   simp[Op.eqFields,n1,t1,o1,n2,t2,o2,n3,t3,o3,go_sem,V.same,ha,hb,hc,e]
 all_goals simp at hs
@[go_sem high] theorem Rs(w:World)(a b c a' b' c':Int):(binOp .eql 50 (.agg #[.int .i64 a,.int .i64 b,.int .i64 c]) (.agg #[.int .i64 a',.int .i64 b',.int .i64 c'])).run Tryz.prog w=.ok (.bool (V.same a b c a' b' c')) w:=by
 rw[run_eql_struct,uL];rfl
end VL
namespace VL
namespace V
theorem Jo{u:Nat}(h:u<1000):(Go.Lib.decDigits u).length<=3/\1<=(Go.Lib.decDigits u).length:=by
 rw[Go.Lib.decDigits_length];by_cases h1:u<10
 ·rw[Go.Lib.nDigits_small h1];omega
 ·rw[Go.Lib.nDigits_big h1];by_cases h2:u/10<10
  ·rw[Go.Lib.nDigits_small h2];omega
  ·rw[Go.Lib.nDigits_big h2,Go.Lib.nDigits_small (by omega)];omega
def iD(n:Int):ByteArray:=⟨(Go.Lib.decDigits n.toNat).toArray⟩
theorem Nk(n:Int):(iD n).size=(Go.Lib.decDigits n.toNat).length:=rfl
theorem dW{n:Int}(h:0<=n/\n<=999):(iD n).size<=3:=by rw[Nk];exact(Jo (by omega)).1
def text(a b c:Int):List UInt8:=Go.Lib.decDigits a.toNat++46::(Go.Lib.decDigits b.toNat++46::Go.Lib.decDigits c.toNat)
def str(a b c:Int):ByteArray:=if may a b c=true then⟨(text a b c).toArray⟩else⟨#[]⟩
theorem yL{a b c:Int}(h:may a b c=true):str a b c=iD a++⟨#[46]⟩++iD b++⟨#[46]⟩++iD c:=by
 unfold str;rw[if_pos h];apply ByteArray.ext;apply Array.toList_inj.1;simp[text,iD,ByteArray.data_append]
theorem Ci{a b c:Int}(h:may a b c=false):str a b c=⟨#[]⟩:=by unfold str;rw[h];rfl
end V
end VL
namespace VL
def bS(w:World):Prop:=Go.Lib.TabIs Tryz.prog w "internal/strconv.uint64pow10" .u64 Go.Lib.pow10Tab
theorem Mt:Tryz.prog.globalNamed "internal/strconv.uint64pow10" =some 3:=by kernel_rfl
theorem bS.size{w:World}(h:bS w):3<w.heap.size:=by
 unfold bS Go.Lib.TabIs World.var? at h;rw[Mt]at h;simp only[Option.bind_some]at h;refine Decidable.byContradiction fun hh=>?_;rw[Array.getElem?_eq_none (by omega)]at h;exact absurd h (by simp)
theorem bS.below{B:Nat}{w w':World}(h:bS w)(hb:Below B w w')(hB:w.heap.size<=B):bS w':=
 var?_below hb Mt (Nat.lt_of_lt_of_le h.size hB) h
theorem below_grow{w:World}(k:Nat)(os:Array Obj):Below w.heap.size w (Go.Sort.grow (w.drewN k) os):=by
 refine⟨rfl,rfl,rfl,by simp[Go.Sort.grow],fun i hi=>?_⟩;show(w.heap++os)[i]? =w.heap[i]?;exact Array.getElem?_append_left hi
theorem Ml(n:Int)(h:0<=n/\n<=9223372036854775807)(w:World)(ht:bS w):
 Calls Tryz.prog 150 #[.int .i64 n] w fun e w'=>e=.returned (.string (V.iD n))/\Below w.heap.size w w':=by
 refine(Tryz.strconv_Itoa n (by omega) h.2 w ht).mono fun e w' hh=>?_;obtain⟨rfl,k,os,rfl⟩:=hh;refine⟨?_,below_grow k os⟩;unfold V.iD Go.Lib.itoa;rw[if_neg (by omega)]
theorem Lx{w W w2:World}{a b c:Value}(hb:Below W.heap.size W w2)(hw:bS w)
 (h:W.cell? ⟨w.heap.size,0,none⟩=some a/\W.cell? ⟨w.heap.size,1,none⟩=some b/\W.cell? ⟨w.heap.size,2,none⟩=some c/\w.heap.size<W.heap.size/\Below w.heap.size w W):
 w2.cell? ⟨w.heap.size,0,none⟩=some a/\w2.cell? ⟨w.heap.size,1,none⟩=some b/\w2.cell? ⟨w.heap.size,2,none⟩=some c/\w.heap.size<w2.heap.size/\Below w.heap.size w w2:=by
 obtain⟨h0,h1,h2,hz,hB⟩:=h;have hs:=hb.size;refine⟨?_,?_,?_,by omega,hB.trans (hb.mono (by omega))⟩;all_goals (rw[hb.cell (p:=⟨w.heap.size,_,none⟩) hz];assumption)
theorem fZ:ByteArray.size ⟨#[46]⟩=1:=rfl
theorem Hr(a b c:Int)(h:V.may a b c=true)(w:World)(ht:bS w):
 Calls Tryz.prog 107 #[.agg #[.int .i64 a,.int .i64 b,.int .i64 c]] w fun e w'=>e=.returned (.string (V.str a b c))/\Below w.heap.size w w':=by
 have hb:=V.gU.1 h;have ha:=V.dW hb.1;have hb':=V.dW hb.2.1;have hc':=V.dW hb.2.2;have e0:∀w,(Op.stringOp .add (V.iD a) (⟨#[46]⟩)).run Tryz.prog w=.ok (.string (V.iD a++⟨#[46]⟩)) w:=fun w=>run_string_add_sum w _ _ (by simp[ByteArray.size_append,fZ];omega);have e1:∀w,(Op.stringOp .add (V.iD a++⟨#[46]⟩) (V.iD b)).run Tryz.prog w=.ok (.string (V.iD a++⟨#[46]⟩++V.iD b)) w:=fun w=>run_string_add_sum w _ _ (by simp[ByteArray.size_append,fZ];omega);have e2:∀w,(Op.stringOp .add (V.iD a++⟨#[46]⟩++V.iD b) (⟨#[46]⟩)).run Tryz.prog w=.ok (.string (V.iD a++⟨#[46]⟩++V.iD b++⟨#[46]⟩)) w:=fun w=>run_string_add_sum w _ _ (by simp[ByteArray.size_append,fZ];omega);have e3:∀w,(Op.stringOp .add (V.iD a++⟨#[46]⟩++V.iD b++⟨#[46]⟩) (V.iD c)).run Tryz.prog w=.ok (.string (V.iD a++⟨#[46]⟩++V.iD b++⟨#[46]⟩++V.iD c)) w:=fun w=>run_string_add_sum w _ _ (by simp[ByteArray.size_append,fZ];omega)
 clear ha hb' hc';have HS:=Hd (V.yL h);have H:=Hd h;clear h;go_enter Tryz.func107,Tryz.ntmps107;go_wp2_with fail;refine(nR _ _ _ _).mono ?_;rintro e w1 ⟨rfl,hb1⟩;rw[H.out];have B1:Below w.heap.size w w1:=by refine Below.trans ?_ (hb1.mono ?_)<;>go_grown
 obtain⟨hc,hf⟩:=Bp hb1;have hz:w.heap.size<w1.heap.size:=by have:=hb1.size;simp at this;omega
 go_wp2
 go_region_held3 (fun w'=>w'.cell? ⟨w.heap.size,0,none⟩=some (.int .i64 a)/\w'.cell? ⟨w.heap.size,1,none⟩=some (.int .i64 b)/\w'.cell? ⟨w.heap.size,2,none⟩=some (.int .i64 c)/\w.heap.size<w'.heap.size/\Below w.heap.size w w')
  (first | (exact Lx (by assumption) ht (by assumption)) | (refine⟨by simp[hc],by simp[hc],by simp[hc],by simpa using hz,?_⟩;exact B1.drew))
  (first | (go_at_call 150;refine(Ml _ (by omega) _ (ht.below (And.right (And.right (And.right (And.right ‹_/\_›)))) nL)).mono ?_;rintro e w2 ⟨rfl,hb⟩))
 rename_i hH
 obtain⟨_,_,_,_,hB⟩:=hH;go_wp2;go_returns;exact⟨by rw[HS.out];rfl,hB⟩
theorem Lg(a b c:Int)(h:V.may a b c=false)(w:World):
 Calls Tryz.prog 107 #[.agg #[.int .i64 a,.int .i64 b,.int .i64 c]] w fun e w'=>e=.returned (.string (V.str a b c))/\Below w.heap.size w w':=by
 have HS:=Hd (V.Ci h);have H:=Hd h;clear h;go_enter Tryz.func107,Tryz.ntmps107;go_wp2_with fail;refine(nR _ _ _ _).mono ?_;rintro e w1 ⟨rfl,hb1⟩;rw[H.out];go_wp2;go_returns;exact⟨by rw[HS.out];rfl,by refine Below.trans ?_ (hb1.mono ?_)<;>go_grown⟩
theorem rH(a b c:Int)(w:World)(ht:bS w):
 Calls Tryz.prog 107 #[.agg #[.int .i64 a,.int .i64 b,.int .i64 c]] w fun e w'=>e=.returned (.string (V.str a b c))/\Below w.heap.size w w':=by
 cases h:V.may a b c
 ·exact Lg a b c h w
 ·exact Hr a b c h w ht
end VL
namespace VL
namespace V
def step(ls:List Int)(c:UInt8):Option (List Int):=
 if c.toNat=46 then some (ls++[0])
 else if(48<=c.toNat/\c.toNat<=57)/\ls.getLastD 0<=999 then some (ls.dropLast++[10*ls.getLastD 0+(c.toNat-48:Nat)])
 else none
def run(ls:List Int):List UInt8->Option (List Int)
 | []=>some ls
 | c::l=>match step ls c with
  | some ls'=>run ls' l
  | none=>none
end V
end VL
namespace VL
theorem Bl(n:Int)(h:0<=n/\n<=255)(w:World)(g:Nat)(hc:w.cell? ⟨g,0,none⟩=some (.int .u8 n)):
 (convert 139 9 (.slice (some ⟨g,0,none⟩) 1 1)).run Tryz.prog w=.ok (.string ⟨#[UInt8.ofNat n.toNat]⟩) w:=by
 have:=run_convert_bytes_back (P:=Tryz.prog) w 139 9 5 ⟨g,0,none⟩ 1 [UInt8.ofNat n.toNat] Tryz.underlying139 Tryz.underlying5 Tryz.underlying9 (fun j hj=>by
  have:j=0:=by simpa using hj
  subst this;show w.cell? ⟨g,0,none⟩=_;rw[hc];simp only[List.getElem_cons_zero,UInt8.toNat_ofNat',Nat.reducePow];congr 2;omega)
 exact this
theorem vC(n:Int)(h:0<=n/\n<10)(w:World):
 Calls Tryz.prog 152 #[.int .i64 n] w fun e w'=>e=.returned (.string (V.iD n))/\Below w.heap.size w w':=by
 have hd:V.iD n=⟨#[UInt8.ofNat (48+n).toNat]⟩:=by
  unfold V.iD;rw[Num.Jn (by omega),show(48+n).toNat=48+n.toNat by omega]
 have hcv:=Bl (48+n) (by omega) (w.alloc (.cells #[.int .u8 (48+n)] 5)) w.heap.size (World.cell?_alloc_new _ _ _ _);rw[<-hd]at hcv;clear hd;go_enter Tryz.func152,Tryz.ntmps152;go_wp2;go_returns;exact⟨rfl,by go_grown⟩
theorem Nl{n:Int}(h:10<=n/\n<1000):V.iD n=V.iD (n/10)++⟨#[UInt8.ofNat (48+n%10).toNat]⟩:=by
 apply ByteArray.ext;apply Array.toList_inj.1;show Go.Lib.decDigits n.toNat=_;rw[Num.Qn (by omega)];simp only[V.iD,ByteArray.data_append,Array.toList_append];rw[show(n/10).toNat=n.toNat/10 by omega,show(48+n%10).toNat=48+n.toNat%10 by omega]
theorem sQ(n:Int)(h:10<=n/\n<1000)(w:World)
 (ih:∀w,Calls Tryz.prog 152 #[.int .i64 (n/10)] w fun e w'=>e=.returned (.string (V.iD (n/10)))/\Below w.heap.size w w'):
 Calls Tryz.prog 152 #[.int .i64 n] w fun e w'=>e=.returned (.string (V.iD n))/\Below w.heap.size w w':=by
 have IH:=Hd ih;have hsz:(V.iD (n/10)).size<=3:=V.dW (by omega);have hadd:∀w,(Op.stringOp .add (V.iD (n/10)) ⟨#[UInt8.ofNat (48+n%10).toNat]⟩).run Tryz.prog w=.ok (.string (V.iD n)) w:=fun w=>by
  rw[Nl h];exact run_string_add_sum w _ _ (by
   have:ByteArray.size ⟨#[UInt8.ofNat (48+n%10).toNat]⟩=1:=rfl;omega)
 have hcv:∀w g,w.cell? ⟨g,0,none⟩=some (.int .u8 (48+n%10))->(convert 139 9 (.slice (some ⟨g,0,none⟩) 1 1)).run Tryz.prog w=.ok (.string ⟨#[UInt8.ofNat (48+n%10).toNat]⟩) w:=fun w g hc=>Bl (48+n%10) (by omega) w g hc;have q1:n.tdiv 10=n/10:=Int.tdiv_eq_ediv_of_nonneg (by omega);have q2:n.tmod 10=n%10:=Int.tmod_eq_emod_of_nonneg (by omega);have q3:IntKind.i64.wrap (n/10)=n/10:=IntWalk.i64_in _ (by omega);have q4:IntKind.i64.wrap (n%10)=n%10:=IntWalk.i64_in _ (by omega);have q5:IntKind.i64.wrap (48+n%10)=48+n%10:=IntWalk.i64_in _ (by omega);have q6:IntKind.u8.wrap (48+n%10)=48+n%10:=IntWalk.u8_in _ (by omega);clear ih hsz;go_enter Tryz.func152,Tryz.ntmps152;go_wp2;go_region_with (go_at_call 152;refine(IH.out _).mono ?_;rintro e w2 ⟨rfl,hb⟩;obtain⟨hc,hf⟩:=Bp hb)
 all_goals
  have B2:Below w.heap.size w w2:=by refine Below.trans ?_ (hb.mono ?_)<;>go_grown
  have hz2:=B2.size;go_wp2;go_returns;exact⟨rfl,by go_grown⟩
theorem Db(n:Int)(h:0<=n/\n<=999)(w:World):
 Calls Tryz.prog 152 #[.int .i64 n] w fun e w'=>e=.returned (.string (V.iD n))/\Below w.heap.size w w':=by
 by_cases h1:n<10
 ·exact vC n (by omega) w
 ·refine sQ n (by omega) w fun w=>?_;by_cases h2:n/10<10
  ·exact vC _ (by omega) w
  ·exact sQ _ (by omega) w fun w=>vC _ (by omega) w
theorem Ko{w W w2:World}{a b c:Value}(hb:Below W.heap.size W w2)
 (h:W.cell? ⟨w.heap.size,0,none⟩=some a/\W.cell? ⟨w.heap.size,1,none⟩=some b/\W.cell? ⟨w.heap.size,2,none⟩=some c/\w.heap.size<W.heap.size/\Below w.heap.size w W):
 w2.cell? ⟨w.heap.size,0,none⟩=some a/\w2.cell? ⟨w.heap.size,1,none⟩=some b/\w2.cell? ⟨w.heap.size,2,none⟩=some c/\w.heap.size<w2.heap.size/\Below w.heap.size w w2:=by
 obtain⟨h0,h1,h2,hz,hB⟩:=h;have hs:=hb.size;refine⟨?_,?_,?_,by omega,hB.trans (hb.mono (by omega))⟩;all_goals (rw[hb.cell (p:=⟨w.heap.size,_,none⟩) hz];assumption)
theorem Co(a b c:Int)(h:V.may a b c=true)(w:World):
 Calls Tryz.prog 113 #[.agg #[.int .i64 a,.int .i64 b,.int .i64 c]] w fun e w'=>e=.returned (.string (V.str a b c))/\Below w.heap.size w w':=by
 have hb:=V.gU.1 h;have ha:=V.dW hb.1;have hb':=V.dW hb.2.1;have hc':=V.dW hb.2.2;have e0:∀w,(Op.stringOp .add (V.iD a) (⟨#[46]⟩)).run Tryz.prog w=.ok (.string (V.iD a++⟨#[46]⟩)) w:=fun w=>run_string_add_sum w _ _ (by simp[ByteArray.size_append,fZ];omega);have e1:∀w,(Op.stringOp .add (V.iD a++⟨#[46]⟩) (V.iD b)).run Tryz.prog w=.ok (.string (V.iD a++⟨#[46]⟩++V.iD b)) w:=fun w=>run_string_add_sum w _ _ (by simp[ByteArray.size_append,fZ];omega);have e2:∀w,(Op.stringOp .add (V.iD a++⟨#[46]⟩++V.iD b) (⟨#[46]⟩)).run Tryz.prog w=.ok (.string (V.iD a++⟨#[46]⟩++V.iD b++⟨#[46]⟩)) w:=fun w=>run_string_add_sum w _ _ (by simp[ByteArray.size_append,fZ];omega);have e3:∀w,(Op.stringOp .add (V.iD a++⟨#[46]⟩++V.iD b++⟨#[46]⟩) (V.iD c)).run Tryz.prog w=.ok (.string (V.iD a++⟨#[46]⟩++V.iD b++⟨#[46]⟩++V.iD c)) w:=fun w=>run_string_add_sum w _ _ (by simp[ByteArray.size_append,fZ];omega)
 clear ha hb' hc';have HS:=Hd (V.yL h);have H:=Hd h;clear h;go_enter Tryz.func113,Tryz.ntmps113;go_wp2_with fail;refine(jE _ _ _ _).mono ?_;rintro e w1 ⟨rfl,hb1⟩;rw[H.out];have B1:Below w.heap.size w w1:=by refine Below.trans ?_ (hb1.mono ?_)<;>go_grown
 obtain⟨hc,hf⟩:=Bp hb1;have hz:w.heap.size<w1.heap.size:=by have:=hb1.size;simp at this;omega
 go_wp2
 go_region_held3 (fun w'=>w'.cell? ⟨w.heap.size,0,none⟩=some (.int .i64 a)/\w'.cell? ⟨w.heap.size,1,none⟩=some (.int .i64 b)/\w'.cell? ⟨w.heap.size,2,none⟩=some (.int .i64 c)/\w.heap.size<w'.heap.size/\Below w.heap.size w w')
  (first | (exact Ko (by assumption) (by assumption)) | (refine⟨by simp[hc],by simp[hc],by simp[hc],by simpa using hz,?_⟩;exact B1.drew))
  (first | (go_at_call 152;refine(Db _ (by omega) _).mono ?_;rintro e w2 ⟨rfl,hb⟩))
 rename_i hH
 obtain⟨_,_,_,_,hB⟩:=hH;go_wp2;go_returns;exact⟨by rw[HS.out];rfl,hB⟩
theorem oN(a b c:Int)(w:World):
 Calls Tryz.prog 113 #[.agg #[.int .i64 a,.int .i64 b,.int .i64 c]] w fun e w'=>e=.returned (.string (V.str a b c))/\Below w.heap.size w w':=by
 cases h:V.may a b c
 ·have HS:=Hd (V.Ci h);have H:=Hd h;clear h;go_enter Tryz.func113,Tryz.ntmps113;go_wp2_with fail;refine(jE _ _ _ _).mono ?_;rintro e w1 ⟨rfl,hb1⟩;rw[H.out];go_wp2;go_returns;exact⟨by rw[HS.out];rfl,by refine Below.trans ?_ (hb1.mono ?_)<;>go_grown⟩
 ·exact Co a b c h w
end VL
namespace VL
theorem uN{P:Program}{id:Nat}{Q:Exit->Act->World->Prop}{a:Act}{w:World}{l:List Oper}(n:Nat)(hm:P.follows .mixedOrders=true)(hB:Region.lexTailB .any l.toArray n=true)
 (h:∀w2,w2=w.drew->wpStill P l.toArray w2 (fun a'=>wpList P l.toArray Q (l.drop n) a' w2) (l.take n) a):(Code.region id l.toArray true).wp P Q a w:=
 wp_region_still_tail n hm hB (h _ rfl)
end VL
namespace VL
def V.cmp1(a b:Int):Int:=if a<b then -1 else if b<a then 1 else 0
def V.or3(x y z:Int):Int:=if x≠0 then x else if y≠0 then y else z
def V.cmp(a b c a' b' c':Int):Int:=V.or3 (V.cmp1 a a') (V.cmp1 b b') (V.cmp1 c c')
theorem Ps(a:Int)(w:World):Calls Tryz.prog 164 #[.int .i64 a] w fun e w'=>e=.returned (.bool false)/\w'=w:=by
 go_enter Tryz.func164,Tryz.ntmps164;go_wp2;go_ret;exact⟨mE (by simp),rfl⟩
theorem kI(a b:Int)(w:World):Calls Tryz.prog 123 #[.int .i64 a,.int .i64 b] w fun e w'=>e=.returned (.int .i64 (V.cmp1 a b))/\w'=w:=by
 rcases Int.lt_trichotomy a b with h | h | h
 all_goals
  go_enter Tryz.func123,Tryz.ntmps123;go_wp2_with (first | (go_at_call 164;refine(Ps _ _).mono ?_;rintro e w' ⟨rfl,rfl⟩));go_returns;exact⟨Fe (by unfold V.cmp1;split<;>(try split)<;>omega),rfl⟩
theorem Fg(b:Nat)(x y z:Int)(w:World)(h0:w.cell? ⟨b,0,none⟩=some (.int .i64 x))(h1:w.cell? ⟨b,1,none⟩=some (.int .i64 y))(h2:w.cell? ⟨b,2,none⟩=some (.int .i64 z)):
 Calls Tryz.prog 122 #[.slice (some ⟨b,0,none⟩) 3 3] w fun e w'=>e=.returned (.int .i64 (V.or3 x y z))/\w'=w:=by
 by_cases hx:x=0<;>by_cases hy:y=0
 all_goals
  go_enter Tryz.func122,Tryz.ntmps122;go_wp2;go_rounds 4;all_goals go_returns
  all_goals exact⟨Fe (by simp_all[V.or3]),rfl⟩
theorem tL(a b c a' b' c':Int)(w:World):
 Calls Tryz.prog 78 #[.agg #[.int .i64 a,.int .i64 b,.int .i64 c],.agg #[.int .i64 a',.int .i64 b',.int .i64 c']] w fun e w'=>e=.returned (.int .i64 (V.cmp a b c a' b' c'))/\Below w.heap.size w w':=by
 go_enter Tryz.func78,Tryz.ntmps78;go_wp2;refine uN 15 (by kernel_rfl) (by kernel_rfl) fun w2 hw2=>?_;simp only[List.take_succ_cons,List.take_zero,List.drop_succ_cons,List.drop_zero];have c0:∀x o,x<w.heap.size+2->w2.cell? ⟨x,o,none⟩=((w.alloc (.cells #[.int .i64 a,.int .i64 b,.int .i64 c] 50)).alloc (.cells #[.int .i64 a',.int .i64 b',.int .i64 c'] 50)).cell? ⟨x,o,none⟩:=fun x o _=>by rw[hw2];rfl
 have B2:Below w.heap.size w w2:=by rw[hw2];go_grown
 have hz:w.heap.size+1<w2.heap.size:=by rw[hw2];simp
 clear hw2;repeat still_step
 still_call (kI _ _ _)
 repeat still_step
 still_call (kI _ _ _)
 repeat still_step
 still_call (kI _ _ _)
 refine wpStill_nil ?_;go_wp2_with fail;refine(Fg _ _ _ _ _ (World.cell?_alloc_new _ _ _ _) (World.cell?_alloc_new _ _ _ _) (World.cell?_alloc_new _ _ _ _)).mono ?_;rintro e w3 ⟨rfl,rfl⟩;go_wp2_with fail;go_returns;exact⟨rfl,B2.alloc (by omega) _⟩
theorem Aa(a a' b b' c c':Int)(h:a<a')(w:World):
 Calls Tryz.prog 67 #[.agg #[.int .i64 a,.int .i64 b,.int .i64 c],.agg #[.int .i64 a',.int .i64 b',.int .i64 c']] w fun e w'=>e=.returned (.int .i64 (-1))/\Below w.heap.size w w':=by
 go_enter Tryz.func67,Tryz.ntmps67;go_wp2;refine wp_loop_rounds 4 ?_;rw[rounds_succ];go_wp2;go_quiet (fail);go_wp2;go_returns;exact⟨rfl,by repeat (first | exact bR _ _ | refine below_drewN ?_ _ | refine Below.drew ?_ | (refine Below.alloc ?_ (by simp<;>omega) _))⟩
theorem Ab(a a' b b' c c':Int)(h:a'<a)(w:World):
 Calls Tryz.prog 67 #[.agg #[.int .i64 a,.int .i64 b,.int .i64 c],.agg #[.int .i64 a',.int .i64 b',.int .i64 c']] w fun e w'=>e=.returned (.int .i64 1)/\Below w.heap.size w w':=by
 go_enter Tryz.func67,Tryz.ntmps67;go_wp2;refine wp_loop_rounds 4 ?_;rw[rounds_succ];go_wp2;go_quiet (fail);go_wp2;go_quiet (fail);go_wp2;go_returns;exact⟨rfl,by repeat (first | exact bR _ _ | refine below_drewN ?_ _ | refine Below.drew ?_ | (refine Below.alloc ?_ (by simp<;>omega) _))⟩
theorem uV(a b b' c c':Int)(h:b<b')(w:World):
 Calls Tryz.prog 67 #[.agg #[.int .i64 a,.int .i64 b,.int .i64 c],.agg #[.int .i64 a,.int .i64 b',.int .i64 c']] w fun e w'=>e=.returned (.int .i64 (-1))/\Below w.heap.size w w':=by
 go_enter Tryz.func67,Tryz.ntmps67;go_wp2;refine wp_loop_rounds 4 ?_;rw[rounds_succ];go_wp2;go_quiet (fail);go_wp2;go_quiet (fail);go_wp2;rw[rounds_succ];go_wp2;go_quiet (fail);go_wp2;go_returns;exact⟨rfl,by repeat (first | exact bR _ _ | refine below_drewN ?_ _ | refine Below.drew ?_ | (refine Below.alloc ?_ (by simp<;>omega) _))⟩
theorem uW(a b b' c c':Int)(h:b'<b)(w:World):
 Calls Tryz.prog 67 #[.agg #[.int .i64 a,.int .i64 b,.int .i64 c],.agg #[.int .i64 a,.int .i64 b',.int .i64 c']] w fun e w'=>e=.returned (.int .i64 1)/\Below w.heap.size w w':=by
 go_enter Tryz.func67,Tryz.ntmps67;go_wp2;refine wp_loop_rounds 4 ?_;rw[rounds_succ];go_wp2;go_quiet (fail);go_wp2;go_quiet (fail);go_wp2;rw[rounds_succ];go_wp2;go_quiet (fail);go_wp2;go_quiet (fail);go_wp2;go_returns;exact⟨rfl,by repeat (first | exact bR _ _ | refine below_drewN ?_ _ | refine Below.drew ?_ | (refine Below.alloc ?_ (by simp<;>omega) _))⟩
theorem pY(a b c c':Int)(h:c<c')(w:World):
 Calls Tryz.prog 67 #[.agg #[.int .i64 a,.int .i64 b,.int .i64 c],.agg #[.int .i64 a,.int .i64 b,.int .i64 c']] w fun e w'=>e=.returned (.int .i64 (-1))/\Below w.heap.size w w':=by
 go_enter Tryz.func67,Tryz.ntmps67;go_wp2;refine wp_loop_rounds 4 ?_;rw[rounds_succ];go_wp2;go_quiet (fail);go_wp2;go_quiet (fail);go_wp2;rw[rounds_succ];go_wp2;go_quiet (fail);go_wp2;go_quiet (fail);go_wp2;rw[rounds_succ];go_wp2;go_quiet (fail);go_wp2;go_returns;exact⟨rfl,by repeat (first | exact bR _ _ | refine below_drewN ?_ _ | refine Below.drew ?_ | (refine Below.alloc ?_ (by simp<;>omega) _))⟩
theorem qA(a b c c':Int)(h:c'<c)(w:World):
 Calls Tryz.prog 67 #[.agg #[.int .i64 a,.int .i64 b,.int .i64 c],.agg #[.int .i64 a,.int .i64 b,.int .i64 c']] w fun e w'=>e=.returned (.int .i64 1)/\Below w.heap.size w w':=by
 go_enter Tryz.func67,Tryz.ntmps67;go_wp2;refine wp_loop_rounds 4 ?_;rw[rounds_succ];go_wp2;go_quiet (fail);go_wp2;go_quiet (fail);go_wp2;rw[rounds_succ];go_wp2;go_quiet (fail);go_wp2;go_quiet (fail);go_wp2;rw[rounds_succ];go_wp2;go_quiet (fail);go_wp2;go_quiet (fail);go_wp2;go_returns;exact⟨rfl,by repeat (first | exact bR _ _ | refine below_drewN ?_ _ | refine Below.drew ?_ | (refine Below.alloc ?_ (by simp<;>omega) _))⟩
theorem qB(a b c:Int)(w:World):
 Calls Tryz.prog 67 #[.agg #[.int .i64 a,.int .i64 b,.int .i64 c],.agg #[.int .i64 a,.int .i64 b,.int .i64 c]] w fun e w'=>e=.returned (.int .i64 0)/\Below w.heap.size w w':=by
 go_enter Tryz.func67,Tryz.ntmps67;go_wp2;refine wp_loop_rounds 4 ?_;rw[rounds_succ];go_wp2;go_quiet (fail);go_wp2;go_quiet (fail);go_wp2;rw[rounds_succ];go_wp2;go_quiet (fail);go_wp2;go_quiet (fail);go_wp2;rw[rounds_succ];go_wp2;go_quiet (fail);go_wp2;go_quiet (fail);go_wp2;rw[rounds_succ];go_wp2;go_returns;exact⟨rfl,by repeat (first | exact bR _ _ | refine below_drewN ?_ _ | refine Below.drew ?_ | (refine Below.alloc ?_ (by simp<;>omega) _))⟩
theorem yV(a b c a' b' c':Int)(w:World):
 Calls Tryz.prog 67 #[.agg #[.int .i64 a,.int .i64 b,.int .i64 c],.agg #[.int .i64 a',.int .i64 b',.int .i64 c']] w fun e w'=>e=.returned (.int .i64 (V.cmp a b c a' b' c'))/\Below w.heap.size w w':=by
 have l:∀ {x y:Int},x<y->V.cmp1 x y= -1:=fun h=>if_pos h;have g:∀ {x y:Int},y<x->V.cmp1 x y=1:=fun h=>by unfold V.cmp1;rw[if_neg (by omega),if_pos h]
 have z:∀ {x:Int},V.cmp1 x x=0:=fun {x}=>by unfold V.cmp1;rw[if_neg (by omega),if_neg (by omega)]
 rcases Int.lt_trichotomy a a' with h | rfl | h
 ·rw[show V.cmp a b c a' b' c'= -1 by simp[V.cmp,V.or3,l h]];exact Aa _ _ _ _ _ _ h w
 ·rcases Int.lt_trichotomy b b' with h | rfl | h
  ·rw[show V.cmp a b c a b' c'= -1 by simp[V.cmp,V.or3,l h,z]];exact uV _ _ _ _ _ h w
  ·rcases Int.lt_trichotomy c c' with h | rfl | h
   ·rw[show V.cmp a b c a b c'= -1 by simp[V.cmp,V.or3,l h,z]];exact pY _ _ _ _ h w
   ·rw[show V.cmp a b c a b c=0 by simp[V.cmp,V.or3,z]];exact qB _ _ _ w
   ·rw[show V.cmp a b c a b c'=1 by simp[V.cmp,V.or3,g h,z]];exact qA _ _ _ _ h w
  ·rw[show V.cmp a b c a b' c'=1 by simp[V.cmp,V.or3,g h,z]];exact uW _ _ _ _ _ h w
 ·rw[show V.cmp a b c a' b' c'=1 by simp[V.cmp,V.or3,g h]];exact Ab _ _ _ _ _ _ h w
end VL
namespace VL
namespace V
theorem qX{a b c:Int}(h:may a b c=true):atA (rank a b c)=a/\atB (rank a b c)=b/\atC (rank a b c)=c/\atOk (rank a b c)=true:=by
 have hb:=gU.1 h;rw[rank_yes h];have hk:atOk ((a*1000+b)*1000+c)=true:=atOk_iff.2 (by omega);obtain⟨h1,h2,h3⟩:=at_yes hk;exact⟨by rw[h1];omega,by rw[h2];omega,by rw[h3];omega,hk⟩
theorem Ox{a b c:Int}(h:may a b c=true):0<=rank a b c/\rank a b c<=999999999:=by
 have:=gU.1 h;rw[rank_yes h];omega
end V
end VL
end Go.Proofs.YtcohlmdnahdnaaaGreatDoor
