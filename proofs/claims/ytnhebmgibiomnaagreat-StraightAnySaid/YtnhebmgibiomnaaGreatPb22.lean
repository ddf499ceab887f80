/- Parts of the proof, joined: BdP. -/
import Derived.RangeFuncBound
import Derived.RangeFuncCalls
import Derived.RangeFuncLeaves
import Derived.RangeFuncNested
import Derived.Test.YtnhebmgibiomnaaGreatProg
import Derived.Test.YtnhebmgibiomnaaGreatPb3
set_option linter.unusedVariables false
set_option linter.unusedSimpArgs false
set_option maxRecDepth 100000
set_option maxHeartbeats 8000000
namespace Go.Proofs.YtnhebmgibiomnaaGreat
open Go.RowKit
def Bg:List (Int×Int)→List Value
 | []=>[]
 | x::r=>.int .i64 x.1::.int .i64 x.2::Bg r
theorem Fr.grown {S:Nat→Prop} {w W W':World} {row:Option Nat} (h:Fr S w W) (hg:W.grownBy W' row) (hr:∀ r,row=some r→w.heap.size≤r):Fr S w W' :=
 ⟨hg.os.trans h.os,hg.tape.trans h.tape,hg.output.trans h.output,Nat.le_trans h.size hg.size,fun k hk hs=>(hg.block k (Nat.lt_of_lt_of_le hk h.size) (fun e=>by have:=hr k e.symm;omega)).trans (h.block k hk hs)⟩
theorem Blk.own {W W':World} {g:Nat} {t:TypeId} {cs:Array Value} {row:Option Nat} (h:Blk W g t cs) (hg:W.grownBy W' row) (hr:∀ r,row=some r→∃ o:Obj,W.heap[r]?=some o∧o.isCells=false):Blk W' g t cs :=
 h.grown hg (fun e=>by
  obtain⟨o,ho,hc⟩:=hr g e.symm;unfold Blk at h;rw[h] at ho
  injection ho with ho
  subst ho;simp[Obj.isCells] at hc)
def InsAt (w:World) (B:Nat) (v:Value) (l:List (Int×Int)):Prop:=∃ A c,v=.slice A l.length c∧Reads w B 2 A l.length (Bg l)
def RowsAt (w:World) (B:Nat) (A:Option Addr) (ll:List (List (Int×Int))):Prop :=
 ∃ vs:List Value,Reads w B 1 A ll.length vs∧∀ (i:Nat) (l:List (Int×Int)),ll[i]?=some l→∃ v,vs[i]?=some v∧InsAt w B v l
theorem InsAt.below {w w':World} {B C:Nat} {v:Value} {l:List (Int×Int)} (h:InsAt w B v l) (hb:Below C w w') (hC:B≤C):InsAt w' B v l:=by
 obtain⟨A,c,e,hr⟩:=h;exact⟨A,c,e,hr.below hb hC⟩
theorem InsAt.more {w:World} {B B':Nat} {v:Value} {l:List (Int×Int)} (h:InsAt w B v l) (hb:B≤B'):InsAt w B' v l:=by
 obtain⟨A,c,e,hr⟩:=h;exact⟨A,c,e,hr.more hb⟩
theorem RowsAt.below {w w':World} {B C:Nat} {A:Option Addr} {ll:List (List (Int×Int))} (h:RowsAt w B A ll) (hb:Below C w w') (hC:B≤C):RowsAt w' B A ll:=by
 obtain⟨vs,hr,hi⟩:=h;exact⟨vs,hr.below hb hC,fun i l hl=>by obtain⟨v,h1,h2⟩:=hi i l hl;exact⟨v,h1,h2.below hb hC⟩⟩
theorem RowsAt.more {w:World} {B B':Nat} {A:Option Addr} {ll:List (List (Int×Int))} (h:RowsAt w B A ll) (hb:B≤B'):RowsAt w B' A ll:=by
 obtain⟨vs,hr,hi⟩:=h;exact⟨vs,hr.more hb,fun i l hl=>by obtain⟨v,h1,h2⟩:=hi i l hl;exact⟨v,h1,h2.more hb⟩⟩
end Go.Proofs.YtnhebmgibiomnaaGreat
