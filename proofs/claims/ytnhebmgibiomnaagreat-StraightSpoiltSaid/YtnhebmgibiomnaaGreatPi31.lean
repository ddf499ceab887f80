import Derived.ChangeSame
import Derived.Deep.Slices
import Derived.Lib.SmallJoins
import Derived.OpenShut
import Derived.ProofKit
import Derived.Test.YtnhebmgibiomnaaGreatPi12
set_option linter.unusedVariables false
set_option linter.unusedSimpArgs false
set_option maxRecDepth 100000
set_option maxHeartbeats 8000000
namespace Go.Proofs.YtnhebmgibiomnaaGreat
section
open Go.ChangeShapes Go.WideShapes Go.ChangeAt Go.RowKit Go.Deep
section
variable {H : Type} (enc : TypeId × Value → H) (P : Program) (w : World) (spare : Nat → Bool) (held : Bool)
def Zhb {α:Type}(R:Repr w.heap.size α)(t:TypeId):Prop :=
 ∀(y:Nat) (cs:List Value) (x:DataW H×List MemPlace),DataW.trod enc P w 0 spare held y t cs=some x→∃a,R.rel w w.heap.size a cs
end
section
variable {H : Type} {enc : TypeId × Value → H} {P : Program} {w : World} {spare : Nat → Bool} {held : Bool} {α β : Type}
theorem Zbd {t:TypeId} (z:P.underlying t=some (.int .i64)):Zhb enc P w spare held (Repr.int (N0:=w.heap.size)) t:=by
 intro u cs x h;obtain⟨n,rfl,_,y⟩:=DataW.trod_int z h;exact⟨n,rfl,bounds_i64 y⟩
theorem Zbc {R:Repr w.heap.size α}{t e:TypeId} (F:P.underlying t=some (.slice e)) (N:P.cellsOf e=R.size) (V:0<R.size) (h:Zhb enc P w spare held R e):Zhb enc P w spare held (Repr.row e R) t:=by
 intro hc cs x O;rcases open_slice F O with⟨rfl,_⟩|⟨a,len,cY,m,n,D,Pl,rfl,_,L,U,T,_,hi⟩
 ·exact⟨[],none,0,rfl,Aw,By _,qR _ _ _ _ _⟩
 ·have hh:len≤m:=by rw[T];split <;> omega
  have Q:∀i,i<len→∃p:α×List Value,R.rel w w.heap.size p.1 p.2∧∀j,j<R.size→w.cell? (a.add (i*R.size+j))=p.2[j]?:=by
   intro i h3;obtain⟨M,r,E⟩:=hi i (by omega);rw[N]at r;obtain⟨_,fz,G⟩:=World.cells?_some r;obtain⟨y,l⟩:=h _ _ _ E;exact⟨(y,M),l,fun j Z=>by rw[←Ys];exact G j Z⟩
  rcases oQ len with K|K
  ·subst K;exact⟨[],some a,cY,rfl,By _,U,qR _ _ _ _ _⟩
  haveI:Inhabited (α×List Value):=⟨Classical.choose (Q 0 K)⟩
  obtain⟨f,X⟩:=choose_lt Q;refine⟨(List.range len).map fun i=>(f i).1,some a,cY,by simp,by simpa using L,U,(List.range len).map fun i=>(f i).2,by simp,?_,fun Y=>?_⟩
  ·intro i y cs l r;simp only[Cd,Option.map_eq_some_iff]at l r;obtain⟨B,g,rfl⟩:=l;obtain⟨i2,s,rfl⟩:=r;rw[g]at s
   injection s with s
   subst s;obtain⟨q,d⟩:=aS.1 g;simp at q d;exact(X B (by omega)).1
  ·simp at Y;obtain⟨b,off,H⟩:=a;have S:∀i j,i<len→j<R.size→w.cell? ((⟨b,off,H⟩:Addr).add (i*R.size+j))=(f i).2[j]?:=fun i j v Z=>(X i v).2 j Z
   have C:∀i,i<len→(f i).2.length=R.size:=fun i v=>R.len (X i v).1
   have W:∃u,w.cell? ⟨b,off,H⟩=some u:=by
    have:=S 0 0 Y V;rw[Bf (by rw[C 0 Y];exact V)]at this;exact⟨_,by simpa [Addr.add]using this⟩
   obtain⟨u,o⟩:=W;have J:H=none:=World.cell?_spot o;subst J;obtain⟨xs,t',z,k⟩:∃xs t' z,w.heap[b]?=some (.cells xs t' z):=by
    unfold World.cell? at o;split at o
    ·rename_i c t' z k;exact⟨c,t',z,k⟩
    ·cases o
   refine⟨b,off,xs,t',z,rfl,(bO.1 k).1,.inl (bO.1 k).1,k,fun i j cs u' v A=>?_⟩;simp only[Cd,Option.map_eq_some_iff]at v;obtain⟨B,g,rfl⟩:=v;obtain⟨q,d⟩:=aS.1 g;simp at q d;subst d;have I:j<R.size:=by rw[←C i q];exact(aS.1 A).1
   have:=S i j q I;rw[add_plain,cell_of_row w b _ xs t' z k,A,←mt]at this;exact this
end
end
section
open Go.ChangeShapes Go.WideShapes Go.ChangeAt Go.RowKit Go.Deep Mc
section
variable {H : Type} {enc : TypeId × Value → H} {w : World} {spare : Nat → Bool} {held : Bool}
theorem Og:Zhb enc Tryz.prog w spare held (Repr.row 3 (Repr.int (N0:=w.heap.size))) 22:=Zbc Tryz.underlying22 (by kernel_rfl) (show 0<1 by decide) (Zbd Tryz.underlying3)
end
end
end Go.Proofs.YtnhebmgibiomnaaGreat
