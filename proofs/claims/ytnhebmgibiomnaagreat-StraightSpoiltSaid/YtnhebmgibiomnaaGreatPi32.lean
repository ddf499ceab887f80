import Derived.ChangeSame
import Derived.Deep.Slices
import Derived.OpenShut
import Derived.ProofKit
import Derived.Test.YtnhebmgibiomnaaGreatPi3
set_option linter.unusedVariables false
set_option linter.unusedSimpArgs false
set_option maxRecDepth 100000
set_option maxHeartbeats 8000000
namespace Go.Proofs.YtnhebmgibiomnaaGreat
section
open Go.ChangeShapes Go.WideShapes Go.ChangeAt Go.RowKit Go.Deep
theorem Zbg:∀(cs:List Value),(∀i,i<cs.length→∃y:Int,cs[i]?=some (Aj y)∧bK y)→∃l:List Int,cs=l.map (Value.int .i64)∧∀y∈l,bK y
 | [],_=>⟨[],rfl,fun y x=>by simp at x⟩
 |c::r,h=>by
  obtain⟨y,x,p⟩:=h 0 (by simp);obtain⟨l,k,v⟩:=Zbg r (fun i hi=>by have:=h (i+1) (by simpa using hi);simpa using this);refine⟨y::l,?_,fun z u=>?_⟩
  ·simp only[Ay,Bw]at x;rw[x,k];rfl
  ·simp only[If]at u;rcases u with rfl|u
   ·exact p
   ·exact v z u
section
variable {H : Type} {enc : TypeId × Value → H} {P : Program} {w : World} {spare : Nat → Bool} {held : Bool}
theorem Rc {aN n:Nat}{r:Reach}{t e:TypeId}{v:Value} (z:P.underlying t=some (.array n e)) (h:Value.okWide P w r aN t v):∃cs,v=.agg cs∧cs.size=P.cellsOf t:=by
 simp only[Value.okWide,z]at h;obtain⟨cs,y,x,_⟩:=h;exact⟨cs,y,x⟩
theorem Zbe {b n:Nat}{t e:TypeId}{cs:List Value}{x:DataW H×List MemPlace} (p:P.underlying t=some (.array n e)) (c:P.underlying e=some (.int .i64)) (s:P.cellsOf e=1) (q:P.cellsOf t=n) (h:DataW.trod enc P w 0 spare held b t cs=some x) :
  ∃l:List Int,cs=l.map (Value.int .i64)∧l.length=n∧∀y∈l,bK y:=by
 obtain⟨xs,m,_,_,k,d,hi⟩:=DataW.trod_array p h;rw[q]at k;have key:∀i,i<n→∃y:Int,cs[i]?=some (Aj y)∧bK y:=by
  intro i a;have z:=hi i a;rw[Bf (by omega)]at z;rw[s,ow]at z;have u:(cs.drop i).take 1=[cs[i]'(by omega)]:=by rw[pI (by omega)];rfl
  rw[u]at z;obtain⟨y,v,_,r⟩:=DataW.trod_int c z
  injection v with v
  exact⟨y,by rw[Bf (by omega),v],bounds_i64 r⟩
 obtain⟨l,z,u⟩:=Zbg cs (fun i hi=>key i (by omega));exact⟨l,z,by rw[←k,z];simp,u⟩
end
end
end Go.Proofs.YtnhebmgibiomnaaGreat
