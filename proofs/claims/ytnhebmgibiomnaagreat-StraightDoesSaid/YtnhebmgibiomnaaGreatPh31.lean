import Derived.ChangeSame
import Derived.Deep.Slices
import Derived.Lib.SmallJoins
import Derived.OpenShut
import Derived.ProofKit
import Derived.Test.YtnhebmgibiomnaaGreatPh12
set_option linter.unusedVariables false
set_option linter.unusedSimpArgs false
set_option maxRecDepth 100000
set_option maxHeartbeats 8000000
namespace Go.Proofs.YtnhebmgibiomnaaGreat
section
open Go.ChangeShapes Go.WideShapes Go.ChangeAt Go.RowKit Go.Deep
section
variable {H : Type} (enc : TypeId × Value → H) (P : Program) (w : World) (spare : Nat → Bool) (held : Bool)
def Zgo {α:Type}(R:Repr w.heap.size α)(t:TypeId):Prop :=
 ∀(y:Nat) (cs:List Value) (x:DataW H×List MemPlace),DataW.trod enc P w 0 spare held y t cs=some x→∃a,R.rel w w.heap.size a cs
end
section
variable {H : Type} {enc : TypeId × Value → H} {P : Program} {w : World} {spare : Nat → Bool} {held : Bool} {α β : Type}
theorem Zas {t:TypeId} (z:P.underlying t=some (.int .i64)):Zgo enc P w spare held (Repr.int (N0:=w.heap.size)) t:=by
 intro u cs x h;obtain⟨n,rfl,_,y⟩:=DataW.trod_int z h;exact⟨n,rfl,bounds_i64 y⟩
theorem Zar {R:Repr w.heap.size α}{t e:TypeId} (T:P.underlying t=some (.slice e)) (O:P.cellsOf e=R.size) (S:0<R.size) (h:Zgo enc P w spare held R e):Zgo enc P w spare held (Repr.row e R) t:=by
 intro hc cs x G;rcases open_slice T G with⟨rfl,_⟩|⟨a,len,dA,m,n,D,Pl,rfl,_,J,A,I,_,hi⟩
 ·exact⟨[],none,0,rfl,Aw,By _,qF _ _ _ _ _⟩
 ·have h3:len≤m:=by rw[I];split <;> omega
  have C:∀i,i<len→∃p:α×List Value,R.rel w w.heap.size p.1 p.2∧∀j,j<R.size→w.cell? (a.add (i*R.size+j))=p.2[j]?:=by
   intro i hh;obtain⟨L,q,N⟩:=hi i (by omega);rw[O]at q;obtain⟨_,fz,F⟩:=World.cells?_some q;obtain⟨y,l⟩:=h _ _ _ N;exact⟨(y,L),l,fun j X=>by rw[←Yh];exact F j X⟩
  rcases oG len with K|K
  ·subst K;exact⟨[],some a,dA,rfl,By _,A,qF _ _ _ _ _⟩
  haveI:Inhabited (α×List Value):=⟨Classical.choose (C 0 K)⟩
  obtain⟨f,Z⟩:=choose_lt C;refine⟨(List.range len).map fun i=>(f i).1,some a,dA,by simp,by simpa using J,A,(List.range len).map fun i=>(f i).2,by simp,?_,fun Y=>?_⟩
  ·intro i y cs l q;simp only[Cc,Option.map_eq_some_iff]at l q;obtain⟨V,o,rfl⟩:=l;obtain⟨i2,d,rfl⟩:=q;rw[o]at d
   injection d with d
   subst d;obtain⟨r,g⟩:=aS.1 o;simp at r g;exact(Z V (by omega)).1
  ·simp at Y;obtain⟨b,off,H⟩:=a;have U:∀i j,i<len→j<R.size→w.cell? ((⟨b,off,H⟩:Addr).add (i*R.size+j))=(f i).2[j]?:=fun i j v X=>(Z i v).2 j X
   have Q:∀i,i<len→(f i).2.length=R.size:=fun i v=>R.len (Z i v).1
   have E:∃u,w.cell? ⟨b,off,H⟩=some u:=by
    have:=U 0 0 Y S;rw[Bg (by rw[Q 0 Y];exact S)]at this;exact⟨_,by simpa [Addr.add]using this⟩
   obtain⟨u,s⟩:=E;have M:H=none:=World.cell?_spot s;subst M;obtain⟨xs,t',z,k⟩:∃xs t' z,w.heap[b]?=some (.cells xs t' z):=by
    unfold World.cell? at s;split at s
    ·rename_i c t' z k;exact⟨c,t',z,k⟩
    ·cases s
   refine⟨b,off,xs,t',z,rfl,(bN.1 k).1,.inl (bN.1 k).1,k,fun i j cs u' v B=>?_⟩;simp only[Cc,Option.map_eq_some_iff]at v;obtain⟨V,o,rfl⟩:=v;obtain⟨r,g⟩:=aS.1 o;simp at r g;subst g;have W:j<R.size:=by rw[←Q i r];exact(aS.1 B).1
   have:=U i j r W;rw[add_plain,cell_of_row w b _ xs t' z k,B,←Lb]at this;exact this
end
end
section
open Go.ChangeShapes Go.WideShapes Go.ChangeAt Go.RowKit Go.Deep Mc
section
variable {H : Type} {enc : TypeId × Value → H} {w : World} {spare : Nat → Bool} {held : Bool}
theorem Nu:Zgo enc Tryz.prog w spare held (Repr.row 3 (Repr.int (N0:=w.heap.size))) 22:=Zar Tryz.underlying22 (by kernel_rfl) (show 0<1 by decide) (Zas Tryz.underlying3)
end
end
end Go.Proofs.YtnhebmgibiomnaaGreat
