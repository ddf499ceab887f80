/- Parts of the proof, joined: OpenB OpenS OpenT. -/
import Derived.Test.YtnhebmgibiomnaaGreatPb35
import Derived.Test.YtnhebmgibiomnaaGreatPb36
set_option linter.unusedVariables false
set_option linter.unusedSimpArgs false
set_option maxRecDepth 100000
set_option maxHeartbeats 8000000
namespace Go.Proofs.YtnhebmgibiomnaaGreat
open Go.ChangeShapes Go.WideShapes Go.ChangeAt Go.RowKit Go.Deep
section
variable {H : Type} {enc : TypeId × Value → H} {w : World} {spare : Nat → Bool} {held : Bool}
theorem Wg:Hf enc Tryz.prog w spare held (Zfc w.heap.size) 96 :=
 Ef Tryz.underlying96 (by kernel_rfl) (Ch rfl (Et Tryz.underlying3) (by kernel_rfl) rfl (Ey rfl (Et Tryz.underlying3) (by kernel_rfl)))
theorem Ky:Hf enc Tryz.prog w spare held (Nx w.heap.size) 24:=Gx Tryz.underlying24 (by kernel_rfl) (show 0<2 by decide) Wg
theorem Td:Hf enc Tryz.prog w spare held (Repr.row 24 (Nx w.heap.size)) 23:=Gx Tryz.underlying23 (by kernel_rfl) (show 0<1 by decide) Ky
end
end Go.Proofs.YtnhebmgibiomnaaGreat
namespace Go.Proofs.YtnhebmgibiomnaaGreat
open Go.ChangeShapes Go.WideShapes Go.ChangeAt Go.RowKit Go.Deep Mc
def progR (N0:Nat):Repr N0 (List (List (Int×Int))×List (Int×Int)×List Int×Int):=Repr.pair (Repr.row 24 (Nx N0)) (Repr.pair (Nx N0) (Repr.pair (Repr.row 3 Repr.int) Repr.int))
section
variable {H : Type} {enc : TypeId × Value → H} {w : World} {spare : Nat → Bool} {held : Bool}
theorem Te:Hf enc Tryz.prog w spare held (progR w.heap.size) 26 :=
 Ef Tryz.underlying26 (by kernel_rfl) (Ch rfl Td (by kernel_rfl) rfl (Ch rfl Ky (by kernel_rfl) rfl (Ch rfl Hm (by kernel_rfl) rfl (Ey rfl (Et Tryz.underlying3) (by kernel_rfl)))))
end
end Go.Proofs.YtnhebmgibiomnaaGreat
namespace Go.Proofs.YtnhebmgibiomnaaGreat
open Go.ChangeShapes Go.WideShapes Go.ChangeAt Go.RowKit Go.Deep Mc
section
variable {H : Type} {enc : TypeId × Value → H} {w : World} {spare : Nat → Bool} {held : Bool}
theorem Sx {fuel:Nat} {cs:List Value} {x:DataW H×List MemPlace} (h:DataW.trod enc Tryz.prog w 0 spare held fuel 26 cs=some x) :
  ∃ (ll:List (List (Int×Int))) (l:List (Int×Int)) (cvt:List Int) (size:Int) (A Am cA:Option Addr) (c cm cc:Nat),cs=[.slice A ll.length c,.slice Am l.length cm,.slice cA cvt.length cc,.int .i64 size]∧l.length≤cm∧cm≤maxLen∧cvt.length≤cc∧cc≤maxLen ∧
   RowAt (Nx w.heap.size) 24 w w.heap.size A ll∧RowAt (Zfc w.heap.size) 96 w w.heap.size Am l∧Reads w w.heap.size 1 cA cvt.length (ints cvt):=by
 obtain⟨⟨ll,l,cvt,size⟩,_,_,rfl,⟨A,c,rfl,a1,a2,a3⟩,_,_,rfl,⟨Am,cm,rfl,b1,b2,b3⟩,_,_,rfl,⟨cA,cc,rfl,c1,c2,c3⟩,rfl,d1⟩:=Te _ _ _ h;refine⟨ll,l,cvt,size,A,Am,cA,c,cm,cc,rfl,b1,b2,c1,c2,a3,b3,?_⟩;rw[Jp];exact c3.reads _ fun a cs h=>Xc h
theorem Sa {fuel:Nat} {cs:List Value} {x:DataW H×List MemPlace} (h:DataW.trod enc Tryz.prog w 0 spare held fuel 30 cs=some x) :
  ∃ (z:Zn) (oA uA tA eA:Option Addr) (oc uc tc ec:Nat),cs=[.slice oA z.org.length oc,.slice uA z.cur.length uc,.slice tA z.touch.length tc,.slice eA z.ends.length ec]∧z.org.length≤oc∧z.cur.length≤uc∧z.touch.length≤tc∧z.ends.length≤ec∧oc≤maxLen∧uc≤maxLen∧tc≤maxLen∧ec≤maxLen∧ZnAt w w.heap.size z oA uA tA eA:=by
 obtain⟨⟨o,u,t,e⟩,_,_,rfl,⟨oA,oc,rfl,a1,a2,a3⟩,_,_,rfl,⟨uA,uc,rfl,b1,b2,b3⟩,_,_,rfl,⟨tA,tc,rfl,c1,c2,c3⟩,eA,ec,rfl,d1,d2,d3⟩:=Tc _ _ _ h;refine⟨⟨o,u,t,e⟩,oA,uA,tA,eA,oc,uc,tc,ec,rfl,a1,b1,c1,d1,a2,b2,c2,d2,?_,?_,?_,?_⟩
 ·exact a3.reads _ fun a cs h=>Zby h
 ·exact b3.reads _ fun a cs h=>Zby h
 ·rw[Jp];exact c3.reads _ fun a cs h=>Xc h
 ·rw[Jp];exact d3.reads _ fun a cs h=>Xc h
end
end Go.Proofs.YtnhebmgibiomnaaGreat
