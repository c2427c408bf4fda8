/- A package's name and version as a map's key. -/
import Derived.DeepKeys4
import Derived.Maps.Keyed
import Derived.Test.YtcohlmdnahdnaaaGreatDoorZStab
namespace Go.Proofs.YtcohlmdnahdnaaaGreatDoor
open Go.RowKit
set_option linter.unusedVariables false
set_option linter.unusedSimpArgs false
set_option maxHeartbeats 16000000
section
open Go.RowKit Go.Maps Go.WideMaps
namespace Top
set_option maxRecDepth 100000
theorem Dl:laidOutB Tryz.prog=true:=by kernel_rfl
theorem Sm:(89:TypeId)<Tryz.prog.types.size:=of_decide_eq_true (by kernel_rfl)
theorem Py:(match Tryz.prog.underlying 89 with | some (.array _ _) | some (.struct _)=>true | _=>false)=true:=by kernel_rfl
theorem Rj:KeyLaw Tryz.prog 89:=deep_law_laid Dl (m:=4) (by omega) Sm (by kernel_rfl) Py
theorem Ay:Keyed Tryz.prog 89:=Keyed.of_law Rj
def lQ(n:List UInt8)(v:Ve):Value:=.agg #[sv n,.int .i64 v.a,.int .i64 v.b,.int .i64 v.c]
theorem Ri:∃m,Tryz.prog.types.size+1=m+4:=⟨Tryz.prog.types.size+1-4,by kernel_rfl⟩
theorem Az:Tryz.prog.cellsOf 89=4/\Tryz.prog.cellsOf 50=3/\Tryz.prog.cellsOf 9=1/\Tryz.prog.cellsOf 3=1:=⟨by kernel_rfl,by kernel_rfl,by kernel_rfl,by kernel_rfl⟩
theorem mK{n:List UInt8}{v:Ve}(hn:n.length<=maxLen)(ha:(Lit.int .i64 v.a).wf=true)(hb:(Lit.int .i64 v.b).wf=true)(hc:(Lit.int .i64 v.c).wf=true):∃kl,keyOf Tryz.prog 89 (lQ n v)=some kl:=by
 have h1:Tryz.prog.keyType 89=true:=by kernel_rfl
 obtain⟨m,hm⟩:=Ri;obtain⟨c1,c2,c3,c4⟩:=Az;have hu:=Tryz.underlying89;have h2:(lQ n v).formed Tryz.prog 89=true:=by
  simp[Value.formed,hu,c1,lQ]
 have hnl:(bs n).size<=maxLen:=by show n.toArray.size<=maxLen;rw[List.size_toArray];exact hn
 unfold keyOf;rw[h1,h2,hm];simp[hu,Program.keyLits,Value.cells,lQ,sv,c1,c2,c3,c4,Tryz.underlying50,Tryz.underlying9,Tryz.underlying3,ha,hb,hc,hnl];rw[if_pos (by intro i hi;rcases i with _ | _ | _ | i<;>first | (exfalso;omega) | simp)];simp
theorem Ip{key:Value}{kl:Lit}(h:keyOf Tryz.prog 89 key=some kl):∃n v,key=lQ n v:=by
 obtain⟨m,hm⟩:=Ri;obtain⟨c1,c2,c3,c4⟩:=Az;have hu:=Tryz.underlying89;unfold keyOf at h;rw[hu]at h;dsimp only at h;split at h;case isFalse=>exact absurd h (by simp)
 rename_i hf
 rw[Bool.and_eq_true]at hf;obtain⟨_,hf⟩:=hf;unfold Value.formed at hf;rw[hu]at hf;cases key with
 | agg xs=>
  simp[c1]at hf;obtain⟨xs⟩:=xs
  match xs,hf with
  | [x0,x1,x2,x3],_=>
   rw[hm]at h;simp[hu,Program.keyLits,Value.cells,c1,c2,c3,c4,Tryz.underlying50,Tryz.underlying9,Tryz.underlying3]at h;cases x0 with
   | string s=>
    by_cases hs:s.size<=maxLen;case neg=>simp[hs]at h
    simp[hs]at h;clear hu hm c1 c2 c3 c4 hf;cases x1 with
    | int q1 a=>
     cases x2 with
     | int q2 b=>
      cases x3 with
      | int q3 c=>
       by_cases h1:q1=.i64
       ·by_cases h2:q2=.i64
        ·by_cases h3:q3=.i64
         ·subst h1 h2 h3;refine⟨s.data.toList,⟨a,b,c⟩,?_⟩;unfold lQ sv bs;simp
         ·first | (simp[h3]at h;done) | ((repeat' split at h)<;>simp_all)
        ·first | (simp[h2]at h;done) | ((repeat' split at h)<;>simp_all)
       ·first | (simp[h1]at h;done) | ((repeat' split at h)<;>simp_all)
      | _=>first | (simp at h;done) | ((repeat' split at h)<;>simp_all)
     | _=>first | (simp at h;done) | ((repeat' split at h)<;>simp_all)
    | _=>first | (simp at h;done) | ((repeat' split at h)<;>simp_all)
   | _=>first | (simp at h;done) | ((repeat' split at h)<;>simp_all)
 | _=>first | (simp at h;done) | ((repeat' split at h)<;>simp_all)
end Top
end
end Go.Proofs.YtcohlmdnahdnaaaGreatDoor
