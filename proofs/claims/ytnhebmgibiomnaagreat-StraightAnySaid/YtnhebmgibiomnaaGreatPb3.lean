/- Parts of the proof, joined: Alias. -/
import Derived.Test.YtnhebmgibiomnaaGreatPb1
import Derived.Test.YtnhebmgibiomnaaGreatPb2
set_option linter.unusedVariables false
set_option linter.unusedSimpArgs false
set_option maxRecDepth 100000
set_option maxHeartbeats 8000000
namespace Go.Proofs.YtnhebmgibiomnaaGreat
open Go Go.RowKit
section
variable {P : Program} {ops : Array Oper} {Q : Exit → Act → World → Prop} {S : World → Prop} {T U need : Nat → Bool}
theorem Bl {id:Nat} {a:Act} {w:World} (t u nd:List Nat) (n:Nat) (S:World→Prop) (h:Cl P ops Q S (fun i=>!t.contains i) (fun i=>u.contains i) (fun i=>nd.contains i) (List.range n) a w.drew) (hm:P.follows .mixedOrders=true:=by kernel_rfl) (hsel:Region.noSelect ops=true:=by kernel_rfl) (hlen:(List.range n).length=ops.size:=by kernel_rfl)
  (hc:Ku ops (fun i=>!t.contains i) (fun i=>u.contains i) (fun i=>nd.contains i) (List.range n) (Array.replicate ops.size false)=true:=by kernel_rfl):(Code.region id ops true).wp P Q a w:=Aw _ _ _ _ S hm hsel hlen hc h
theorem Ai {i:Nat} {r:List Nat} {a:Act} {w:World} {o:Oper} {v:Value} (h:Cl P ops Q S T U need r (a.put o.dst v) w) (hT:T i=true:=by exact rfl) (hU:U i=false:=by exact rfl) (ho:ops[i]?=some o:=by exact rfl)
  (hw:Region.wanted o (yielded ops a.tmps)=true:=by kernel_rfl) (hQ:∀ c a w,Q (.panic c) (a.put o.dst v) w→Q (.panic c) a w:=by exact fun _ _ _ h=>h) (hy:∀ wq,(execOp a.eval o).run P wq=.ok (.value v) wq:=by intro wq;first|(go_simp;done)|(go_simp;rfl)) :
  Cl P ops Q S T U need (i::r) a w:=Em hT hU ho hw hQ hy h
theorem An {i:Nat} {r:List Nat} {a:Act} {w:World} {o:Oper} {v:Value} (hS:S w) (h:Cl P ops Q S T U need r (a.put o.dst v) w) (hT:T i=true:=by exact rfl) (ho:ops[i]?=some o:=by exact rfl) (hU:U i=true:=by exact rfl)
  (hw:Region.wanted o (yielded ops a.tmps)=true:=by kernel_rfl) (hQ:∀ c a w,Q (.panic c) (a.put o.dst v) w→Q (.panic c) a w:=by exact fun _ _ _ h=>h)
  (hy:∀ wq,S wq→(execOp a.eval o).run P wq=.ok (.value v) wq:=by intro wq hq;(try have hq1:=hq.1);(try have hq2:=hq.2.1);(try have hq3:=hq.2.2.1);(try have hq4:=hq.2.2.2.1);(try have hq5:=hq.2.2.2.2.1);(try have hq6:=hq.2.2.2.2.2.1);(try have hq7:=hq.2.2.2.2.2.2);(try have hr2:=hq.2);(try have hr3:=hq.2.2);(try have hr4:=hq.2.2.2);(try have hr5:=hq.2.2.2.2);first|(go_simp;done)|(go_simp;rfl)) :
  Cl P ops Q S T U need (i::r) a w:=Fw hT ho hw hQ hS hU hy h
theorem Aq {i:Nat} {r:List Nat} {a:Act} {w:World} {o:Oper} (h:∀ K:Act→World→Prop,(∀ a' w',(need i=true→S w')→Cl P ops Q S T U need r a' w'→K a' w')→if Region.wanted o (yielded ops a.tmps)=true then o.wp P a w K Q else K (a.put o.dst undef) w) (hT:T i=false:=by exact rfl) (ho:ops[i]?=some o:=by exact rfl):Cl P ops Q S T U need (i::r) a w:=Ol hT ho h
theorem Aj {A:Prop} {S:World→Prop} {X:Act→World→Prop} {a:Act} {w:World} {K:Act→World→Prop} (hK:∀ a' w',(A→S w')→X a' w'→K a' w') (h:X a w) (hn:A→False:=by exact fun e=>by cases e):K a w:=hK _ _ (fun e=>(hn e).elim) h
end
theorem Ab {w:World} {g:Nat} {t:TypeId} {cs:Array Value} (h:Blk w g t cs) (i:Nat) {v:Value} (e:cs[i]?=some v):w.cell? ⟨g,i,none⟩=some v:=(h.cell i).trans e
abbrev aliasInt (n:Int):Value:=.int .i64 n
theorem Aa {p:Prop} (h:p):Hid p:=Lib.hid h
theorem Ad {n:Nat}:n≤n:=Nat.le_refl n
theorem aliasBr {n:Nat} {w:World}:Below n w w:=Below.refl n w
end Go.Proofs.YtnhebmgibiomnaaGreat
