import Derived.Deep.Light
import Derived.Test.YtnhebmgibiomnaaGreatPh5
set_option linter.unusedVariables false
set_option linter.unusedSimpArgs false
set_option maxRecDepth 100000
set_option maxHeartbeats 8000000
namespace Go.Proofs.YtnhebmgibiomnaaGreat
section
open Go.RowKit Mc
namespace Sr
structure Ok (s:St):Prop where
 rl:s.aW.length=64
 rk:∀x∈s.aW,bI x
 m:Mc.Ok s.m
end Sr
structure bK where
 og:Value
 cu:Value
 tq:Value
 en:Value
 co:Value
 cv:Value
 st:Value
def Uk (L:bK)(s:Sr.St):List Value:=[L.og,L.cu,L.tq,L.en,L.co,L.cv,L.st,Aj s.m.size,Aj s.m.look,Aj s.m.move,Aj s.m.bG,Aj (s.pc:Int),Aj (s.steps:Int)]
def Ej (L:bK)(s:Sr.St):Array Value:=(ae s.aW++Uk L s).toArray
theorem Zhz {L:bK}{s:Sr.St}(x:s.aW.length=64){i:Nat}(hi:i<64):(Ej L s)[i]?=some (Aj (s.aW.getD i 0)):=by
 unfold Ej;rw[Az,En (by rw[Dc];omega)];unfold ae;rw[Cc,Bg (by omega),Bn,Bg (by omega)];rfl
theorem Gs {L:bK}{s:Sr.St}(x:s.aW.length=64)(j:Nat):(Ej L s)[64+j]?=(Uk L s)[j]?:=by
 unfold Ej;rw[Az,Dp (by rw[Dc];omega),Dc,x,oY]
theorem Wp {L:bK}{s:Sr.St}(x:s.aW.length=64){i:Nat}(hi:i<64)(v:Int):(Ej L s).setIfInBounds i (Aj v)=Ej L { s with aW:=s.aW.set i v } := by
 unfold Ej;rw[oz,List.set_append_left _ _ (by rw[Dc];omega)];unfold ae;rw[pH];rfl
theorem Kc {L L':bK}{s s':Sr.St}(x:s.aW.length=64)(z:s'.aW=s.aW)(j:Nat)(u:Value) (y:(Uk L s).set j u=Uk L' s'):(Ej L s).setIfInBounds (64+j) u=Ej L' s':=by
 unfold Ej;rw[oz,oI _ _ (by rw[Dc];omega),Dc,x,oY,y,z]
def eZ (L:bK)(sb:Nat)(k:Nat):Prop:=k=sb∨L.cu.ownBlock=some k∨L.tq.ownBlock=some k∨L.cv.ownBlock=some k∨L.st.ownBlock=some k
structure au (w:World) (sb:Nat) (L:bK) (s:Sr.St):Prop where
 aG:aH w sb 104 (Ej L s)
 og:w.ownsRow 0 76 2 L.og s.m.aT.length (bq s.m.aT)
 cu:w.ownsRow 0 76 2 L.cu s.m.aF.length (bq s.m.aF)
 tq:w.ownsRow 0 3 1 L.tq s.m.aB.length (ae s.m.aB)
 en:w.ownsRow 0 3 1 L.en s.m.aJ.length (ae s.m.aJ)
 co:w.ownsRow 0 157 2 L.co s.m.bH.length (ir s.m.bH)
 cv:w.ownsRow 0 3 1 L.cv s.m.aP.length (ae s.m.aP)
 st:w.ownsRow 0 3 1 L.st s.m.store.length (ae s.m.store)
 bQ:ar L.cu L.og
 dk:ar L.tq L.en
 dT:ar L.tq L.cv
 dV:ar L.tq L.st
 bW:ar L.en L.cv
 dj:ar L.en L.st
 dU:ar L.cv L.st
 ok:Sr.Ok s
section
variable {w w' : World} {sb : Nat} {L : bK} {s : Sr.St}
theorem au.fR (h:au w sb L s){i:Nat}(hi:i<64):w.cell? ⟨sb,i,none⟩=some (Aj (s.aW.getD i 0)):=(h.aG.cell i).trans (Zhz h.ok.rl hi)
theorem au.c64 (h:au w sb L s):w.cell? ⟨sb,64,none⟩=some L.og:=(h.aG.cell 64).trans (Gs h.ok.rl 0)
theorem au.h_ (h:au w sb L s):w.cell? ⟨sb,65,none⟩=some L.cu:=(h.aG.cell 65).trans (Gs h.ok.rl 1)
theorem au.c66 (h:au w sb L s):w.cell? ⟨sb,66,none⟩=some L.tq:=(h.aG.cell 66).trans (Gs h.ok.rl 2)
theorem au.c67 (h:au w sb L s):w.cell? ⟨sb,67,none⟩=some L.en:=(h.aG.cell 67).trans (Gs h.ok.rl 3)
theorem au.c68 (h:au w sb L s):w.cell? ⟨sb,68,none⟩=some L.co:=(h.aG.cell 68).trans (Gs h.ok.rl 4)
theorem au.kj (h:au w sb L s):w.cell? ⟨sb,69,none⟩=some L.cv:=(h.aG.cell 69).trans (Gs h.ok.rl 5)
theorem au.lN (h:au w sb L s):w.cell? ⟨sb,70,none⟩=some L.st:=(h.aG.cell 70).trans (Gs h.ok.rl 6)
theorem au.c71 (h:au w sb L s):w.cell? ⟨sb,71,none⟩=some (Aj s.m.size):=(h.aG.cell 71).trans (Gs h.ok.rl 7)
theorem au.it (h:au w sb L s):w.cell? ⟨sb,72,none⟩=some (Aj s.m.look):=(h.aG.cell 72).trans (Gs h.ok.rl 8)
theorem au.gg (h:au w sb L s):w.cell? ⟨sb,73,none⟩=some (Aj s.m.move):=(h.aG.cell 73).trans (Gs h.ok.rl 9)
theorem au.c74 (h:au w sb L s):w.cell? ⟨sb,74,none⟩=some (Aj s.m.bG):=(h.aG.cell 74).trans (Gs h.ok.rl 10)
theorem au.jP (h:au w sb L s):w.cell? ⟨sb,75,none⟩=some (Aj (s.pc:Int)):=(h.aG.cell 75).trans (Gs h.ok.rl 11)
theorem au.mj (h:au w sb L s):w.cell? ⟨sb,76,none⟩=some (Aj (s.steps:Int)):=(h.aG.cell 76).trans (Gs h.ok.rl 12)
theorem au.aQ (h:au w sb L s) (x:∀k,(k=sb∨L.og.ownBlock=some k∨L.cu.ownBlock=some k∨L.tq.ownBlock=some k∨L.en.ownBlock=some k∨L.co.ownBlock=some k∨L.cv.ownBlock=some k∨L.st.ownBlock=some k)→w'.heap[k]?=w.heap[k]?):au w' sb L s :=
 ⟨(x sb (.inl rfl)).trans h.aG,Cz h.og (fun g e=>x g (by simp[e])),Cz h.cu (fun g e=>x g (by simp[e])),Cz h.tq (fun g e=>x g (by simp[e])),Cz h.en (fun g e=>x g (by simp[e])),Cz h.co (fun g e=>x g (by simp[e])),Cz h.cv (fun g e=>x g (by simp[e])),Cz h.st (fun g e=>x g (by simp[e])),h.bQ,h.dk,h.dT,h.dV,h.bW,h.dj,h.dU,h.ok⟩
theorem au.lt (h:au w sb L s){k:Nat}(x:k=sb∨L.og.ownBlock=some k∨L.cu.ownBlock=some k∨L.tq.ownBlock=some k∨L.en.ownBlock=some k∨L.co.ownBlock=some k∨L.cv.ownBlock=some k∨L.st.ownBlock=some k):k<w.heap.size:=by
 rcases x with rfl|e|e|e|e|e|e|e
 ·exact h.aG.lt
 ·exact(Bf h.og e).2.1
 ·exact(Bf h.cu e).2.1
 ·exact(Bf h.tq e).2.1
 ·exact(Bf h.en e).2.1
 ·exact(Bf h.co e).2.1
 ·exact(Bf h.cv e).2.1
 ·exact(Bf h.st e).2.1
theorem au.cr (h:au w sb L s)(y:bT w w'):au w' sb L s:=h.aQ fun k z=>y.block k (h.lt z) (fun x=>x)
theorem au.fd (h:au w sb L s){i:Nat}{u:Value}{s':Sr.St} (v:(Ej L s).setIfInBounds i u=Ej L s') (x:s'.m.aT=s.m.aT) (q:s'.m.aF=s.m.aF) (r:s'.m.aB=s.m.aB) (y:s'.m.aJ=s.m.aJ) (p:s'.m.bH=s.m.bH) (z:s'.m.aP=s.m.aP) (a:s'.m.store=s.m.store) (k:Sr.Ok s'):au (w.setCell ⟨sb,i,none⟩ u) sb L s':=by
 refine⟨v ▸ h.aG.aZ i u,?_,?_,?_,?_,?_,?_,?_,h.bQ,h.dk,h.dT,h.dV,h.bW,h.dj,h.dU,k⟩
 ·rw[x];exact Ci h.og h.aG (by decide) i u
 ·rw[q];exact Ci h.cu h.aG (by decide) i u
 ·rw[r];exact Ci h.tq h.aG (by decide) i u
 ·rw[y];exact Ci h.en h.aG (by decide) i u
 ·rw[p];exact Ci h.co h.aG (by decide) i u
 ·rw[z];exact Ci h.cv h.aG (by decide) i u
 ·rw[a];exact Ci h.st h.aG (by decide) i u
theorem au.jT (h:au w sb L s){i:Nat}(hi:i<64){v:Int}(z:bI v):au (w.setCell ⟨sb,i,none⟩ (Aj v)) sb L { s with aW:=s.aW.set i v } :=
 h.fd (Wp h.ok.rl hi v) rfl rfl rfl rfl rfl rfl rfl ⟨by simp[h.ok.rl],fun x y=>by rcases oE y with y|rfl;exact h.ok.rk x y;exact z,h.ok.m⟩
theorem au.ie (h:au w sb L s){v:Int}(x:0≤v∧v≤1):au (w.setCell ⟨sb,72,none⟩ (Aj v)) sb L { s with m := { s.m with look:=v } } :=
 h.fd (Kc (L:=L) (L':=L) (s:=s) (s' := { s with m := { s.m with look:=v } }) h.ok.rl rfl 8 (Aj v) rfl) rfl rfl rfl rfl rfl rfl rfl ⟨h.ok.rl,h.ok.rk,{ h.ok.m with look:=x }⟩
theorem au.ij (h:au w sb L s){v:Int}(x:0≤v∧v≤1):au (w.setCell ⟨sb,73,none⟩ (Aj v)) sb L { s with m := { s.m with move:=v } } :=
 h.fd (Kc (L:=L) (L':=L) (s:=s) (s' := { s with m := { s.m with move:=v } }) h.ok.rl rfl 9 (Aj v) rfl) rfl rfl rfl rfl rfl rfl rfl ⟨h.ok.rl,h.ok.rk,{ h.ok.m with move:=x }⟩
theorem au.iY (h:au w sb L s){v:Int}(x:0≤v∧v≤5):au (w.setCell ⟨sb,74,none⟩ (Aj v)) sb L { s with m := { s.m with bG:=v } } :=
 h.fd (Kc (L:=L) (L':=L) (s:=s) (s' := { s with m := { s.m with bG:=v } }) h.ok.rl rfl 10 (Aj v) rfl) rfl rfl rfl rfl rfl rfl rfl ⟨h.ok.rl,h.ok.rk,{ h.ok.m with bG:=x }⟩
theorem au.jp (h:au w sb L s)(v:Nat):au (w.setCell ⟨sb,75,none⟩ (Aj (v:Int))) sb L { s with pc:=v } :=
 h.fd (Kc (L:=L) (L':=L) (s:=s) (s' := { s with pc:=v }) h.ok.rl rfl 11 (Aj (v:Int)) rfl) rfl rfl rfl rfl rfl rfl rfl ⟨h.ok.rl,h.ok.rk,h.ok.m⟩
theorem au.fC (h:au w sb L s)(v:Nat):au (w.setCell ⟨sb,76,none⟩ (Aj (v:Int))) sb L { s with steps:=v } :=
 h.fd (Kc (L:=L) (L':=L) (s:=s) (s' := { s with steps:=v }) h.ok.rl rfl 12 (Aj (v:Int)) rfl) rfl rfl rfl rfl rfl rfl rfl ⟨h.ok.rl,h.ok.rk,h.ok.m⟩
theorem Dz {aN size n g:Nat}{t:TypeId}{v:Value}{xs:List Value}(h:w.ownsRow aN t size v n xs)(x:v.ownBlock=some g){j:Nat}(b:j<xs.length)(u:Value):(w.setCell ⟨g,j,none⟩ u).ownsRow aN t size v n (xs.set j u):=by
 rcases h.2 with⟨rfl,_⟩|⟨y,dA,aF,rfl,s,a,r,z,p,k⟩
 ·simp[Value.ownBlock]at x
 ·simp only[Value.ownBlock,Bv]at x;subst x;have q:aH w y t aF:=a;refine⟨by rw[Dd];exact h.1,.inr ⟨y,dA,aF.setIfInBounds j u,rfl,s,q.aZ j u,r,z,by rw[Dr];exact p,?_⟩⟩;rw[qa,List.take_set,k]
theorem Gz {aN y size size' n n' g:Nat}{t:TypeId}{v v':Value}{xs xs':List Value}(h:w.ownsRow aN t size v n xs)(_h':w.ownsRow y t size' v' n' xs')(z:ar v v')(x:v'.ownBlock=some g)(j:Nat)(u:Value):(w.setCell ⟨g,j,none⟩ u).ownsRow aN t size v n xs :=
 Cz h fun k e=>Bp _ _ _ _ (fun p:k=g=>z k e (p ▸ x))
theorem Dj {aN y size size' n n' g:Nat}{t t':TypeId}{v v':Value}{xs xs':List Value}(h:w.ownsRow aN t size v n xs)(z:w.ownsRow y t' size' v' n' xs')(q:t≠t')(x:v'.ownBlock=some g)(j:Nat)(u:Value):(w.setCell ⟨g,j,none⟩ u).ownsRow aN t size v n xs :=
 Cz h fun k e=>Bp _ _ _ _ (fun p:k=g=>Dl h z q k e (p ▸ x))
theorem Ka {aN size n g:Nat}{t t':TypeId}{v:Value}{xs:List Value}{cs:Array Value}(x:aH w sb t' cs)(h:w.ownsRow aN t size v n xs)(k:t'≠t)(z:v.ownBlock=some g)(j:Nat)(u:Value):aH (w.setCell ⟨g,j,none⟩ u) sb t' cs:=by
 obtain⟨_,_,q,y⟩:=Bf h z;exact x.dE (p:=⟨g,j,none⟩) (x.dF y k) u
theorem au.jr (h:au w sb L s){g:Nat}(x:L.cv.ownBlock=some g){i:Nat}(hi:i<s.m.aP.length){v:Int}(y:bI v):au (w.setCell ⟨g,i,none⟩ (Aj v)) sb L { s with m := { s.m with aP:=s.m.aP.set i v } } := by
 refine⟨Ka h.aG h.cv (by decide) x _ _,Dj h.og h.cv (by decide) x _ _,Dj h.cu h.cv (by decide) x _ _,Gz h.tq h.cv h.dT x _ _,Gz h.en h.cv h.bW x _ _,Dj h.co h.cv (by decide) x _ _,?_,Gz h.st h.cv h.dU.symm x _ _,h.bQ,h.dk,h.dT,h.dV,h.bW,h.dj,h.dU,⟨h.ok.rl,h.ok.rk,{ h.ok.m with aP:=Ib h.ok.m.aP y,iC:=by simpa using h.ok.m.iC }⟩⟩;have:=Dz h.cv x (j:=i) (by rw[Dc];exact hi) (Aj v);rw[←Gd]at this
 simpa using this
theorem au.setSt (h:au w sb L s){g:Nat}(x:L.st.ownBlock=some g){i:Nat}(hi:i<s.m.store.length){v:Int}(y:bI v):au (w.setCell ⟨g,i,none⟩ (Aj v)) sb L { s with m := { s.m with store:=s.m.store.set i v } } := by
 refine⟨Ka h.aG h.st (by decide) x _ _,Dj h.og h.st (by decide) x _ _,Dj h.cu h.st (by decide) x _ _,Gz h.tq h.st h.dV x _ _,Gz h.en h.st h.dj x _ _,Dj h.co h.st (by decide) x _ _,Gz h.cv h.st h.dU x _ _,?_,h.bQ,h.dk,h.dT,h.dV,h.bW,h.dj,h.dU,⟨h.ok.rl,h.ok.rk,{ h.ok.m with store:=Ib h.ok.m.store y,dR:=by simpa using h.ok.m.dR }⟩⟩;have:=Dz h.st x (j:=i) (by rw[Dc];exact hi) (Aj v);rw[←Gd]at this
 simpa using this
theorem au.setTq (h:au w sb L s){g:Nat}(x:L.tq.ownBlock=some g){i:Nat}(hi:i<s.m.aB.length){v:Int}(y:0≤v∧v≤3):au (w.setCell ⟨g,i,none⟩ (Aj v)) sb L { s with m := { s.m with aB:=s.m.aB.set i v } } := by
 refine⟨Ka h.aG h.tq (by decide) x _ _,Dj h.og h.tq (by decide) x _ _,Dj h.cu h.tq (by decide) x _ _,?_,Gz h.en h.tq h.dk.symm x _ _,Dj h.co h.tq (by decide) x _ _,Gz h.cv h.tq h.dT.symm x _ _,Gz h.st h.tq h.dV.symm x _ _,h.bQ,h.dk,h.dT,h.dV,h.bW,h.dj,h.dU,⟨h.ok.rl,h.ok.rk,{ h.ok.m with aB:=Ib h.ok.m.aB y,tl:=by simpa using h.ok.m.tl }⟩⟩;have:=Dz h.tq x (j:=i) (by rw[Dc];exact hi) (Aj v);rw[←Gd]at this
 simpa using this
theorem Zaf:∀{l:List (Int×Int)} {i:Nat} {x:Int×Int} (_:l[i]?=some x) (axis v:Int),(bq l).set (i*2+(if axis=1 then 1 else 0)) (Aj v)=bq (l.set i (if axis=1 then(x.1,v) else(v,x.2)))
 |a::l,0,x,h,axis,v=>by
  simp only[Ay,Bv]at h;subst h;split <;> simp[bq]
 |a::l,i+1,x,h,axis,v=>by
  have y:=Zaf (l:=l) (i:=i) (x:=x) h axis v;rw[show (i+1)*2+(if axis=1 then 1 else 0)=(i*2+(if axis=1 then 1 else 0))+1+1 by omega];have:(bq (a::l)).set (i*2+(if axis=1 then 1 else 0)+1+1) (Aj v)=Aj a.1::Aj a.2::(bq l).set (i*2+(if axis=1 then 1 else 0)) (Aj v):=rfl;rw[this,y];rfl
 | [],i,x,h,_,_=>by simp at h
theorem au.ix (h:au w sb L s){g:Nat}(y:L.cu.ownBlock=some g){i:Nat}{x:Int×Int} (k:s.m.aF[i]?=some x) (axis:Int) (v:Int) (q:bI v) (r:bI x.1∧bI x.2) :
  au (w.setCell ⟨g,i*2+(if axis=1 then 1 else 0),none⟩ (Aj v)) sb L { s with m := { s.m with aF:=s.m.aF.set i (if axis=1 then(x.1,v) else(v,x.2)) } } := by
 have hi:=(aS.1 k).1;refine⟨Ka h.aG h.cu (by decide) y _ _,Gz h.og h.cu h.bQ.symm y _ _,?_,Dj h.tq h.cu (by decide) y _ _,Dj h.en h.cu (by decide) y _ _,Dj h.co h.cu (by decide) y _ _,Dj h.cv h.cu (by decide) y _ _,Dj h.st h.cu (by decide) y _ _,h.bQ,h.dk,h.dT,h.dV,h.bW,h.dj,h.dU,⟨h.ok.rl,h.ok.rk,{ h.ok.m with aF:=fun p z=>?_,dL:=by simpa using h.ok.m.dL,tl:=by simpa using h.ok.m.tl,bH:=by simpa using h.ok.m.bH,cX:=by simpa using h.ok.m.cX }⟩⟩
 ·have u:=Dz h.cu y (j:=i*2+(if axis=1 then 1 else 0)) (by rw[Ia];split <;> omega) (Aj v);have e:=Zaf k axis v;rw[e]at u
  simpa using u
 ·rcases oE z with z|rfl
  ·exact h.ok.m.aF p z
  ·split
   ·exact⟨r.1,q⟩
   ·exact⟨q,r.2⟩
end
def bB (w:World)(sb:Nat)(L:bK)(s:Sr.St)(e:Ending)(w':World):Prop:=e=.returned (.tuple #[])∧au w' sb L s∧Fr (eZ L sb) w w'
end
section
open Go.RowKit Mc
theorem Dy (n:Int)(w:World):Calls Tryz.prog 72 #[Aj n] w fun e w'=>e=.returned (Aj (bA n))∧w=w':=by
 go_enter Tryz.func72,Tryz.ntmps72;go_wp2;go_ret;exact⟨Cl (Pd n),rfl⟩
theorem Jl (n d:Int)(w:World)(y:0<d)(u:d≤1000):Calls Tryz.prog 134 #[Aj n,Aj d] w fun e w'=>e=.returned (Aj (n % d))∧w=w':=by
 have x:=Aq (Ln n d y);have v:=oT n (show d≠0 by omega);have z:=oU n y;go_enter Tryz.func134,Tryz.ntmps134;go_wp2
 all_goals go_ret
 ·have x:=x.o;rw[if_pos ‹_›]at x;exact⟨Cl (by rw[x];exact pG _ (by omega)),rfl⟩
 ·have x:=x.o;rw[if_neg (by omega)]at x;exact⟨Cl x.symm,rfl⟩
theorem Hy (a b:Int)(w:World):Calls Tryz.prog 111 #[Aj a,Aj b] w fun e w'=>e=.returned (Aj (Mc.iD (Mc.eT a b)))∧w=w':=by
 by_cases z:b=0
 ·subst z;go_enter Tryz.func111,Tryz.ntmps111;go_wp2;go_ret;exact⟨Cl rfl,rfl⟩
 ·have p:Mc.eT a b=a.fdiv b:=by unfold Mc.eT;rw[if_neg z]
  have k:=Aq (Rd a b z);have u:=Aq p;have d:(b==0)=false:=beq_eq_false_iff_ne.2 z;clear p;by_cases x:a.tmod b≠0∧(decide (a<0)≠decide (b<0))
  ·have q:(a.tmod b != 0)=true:=bne_iff_ne.2 x.1;have s:(decide (a<0)==decide (b<0))=false:=beq_eq_false_iff_ne.2 x.2;have y:=Aq x;obtain⟨c,_⟩:=x;go_enter Tryz.func111,Tryz.ntmps111;go_wp2;go_ret;refine⟨Cl ?_,rfl⟩;rw[u.o,k.o,if_pos y.o];exact Yr _
  ·have y:=Aq x;clear x;by_cases v:a.tmod b=0
   ·have q:(a.tmod b != 0)=false:=by simp[v]
    go_enter Tryz.func111,Tryz.ntmps111;go_wp2;go_ret;refine⟨Cl ?_,rfl⟩;rw[u.o,k.o,if_neg y.o];exact Gr _
   ·have q:(a.tmod b != 0)=true:=bne_iff_ne.2 v;have s:(decide (a<0)==decide (b<0))=true:=by
     rcases r:(decide (a<0)==decide (b<0)) with _|_
     ·exact absurd ⟨v,beq_eq_false_iff_ne.1 r⟩ y.o
     ·rfl
    go_enter Tryz.func111,Tryz.ntmps111;go_wp2;go_ret;refine⟨Cl ?_,rfl⟩;rw[u.o,k.o,if_neg y.o];exact Gr _
theorem Gg (b:Bool)(w:World):Calls Tryz.prog 121 #[.bool b] w fun e w'=>e=.returned (Aj (Mc.bC b))∧w=w':=by
 cases b
 all_goals
  go_enter Tryz.func121,Tryz.ntmps121;go_wp2;go_ret;exact⟨rfl,rfl⟩
theorem Dt (b off:Nat)(a:Int)(w:World)(x:0≤a)(y:a≤1):Calls Tryz.prog 227 #[.pointer (some ⟨b,off,none⟩),Aj a] w fun e w'=>e=.returned (.pointer (some ⟨b,off+(if a=1 then 1 else 0),none⟩))∧w=w':=by
 have h:a=0∨a=1:=by omega
 rcases h with rfl|rfl
 all_goals
  go_enter Tryz.func227,Tryz.ntmps227;go_wp2;go_ret;exact⟨rfl,rfl⟩
theorem Zbl (op:Int)(w:World):Calls Tryz.prog 49 #[Aj op] w fun e w'=>e=.returned (.bool (Sr.cN op))∧w=w':=by
 by_cases x:op=35
 ·subst x;go_enter Tryz.func49,Tryz.ntmps49;go_wp2;go_ret;exact⟨rfl,rfl⟩
 ·by_cases y:op=36
  ·subst y;go_enter Tryz.func49,Tryz.ntmps49;go_wp2;go_ret;exact⟨rfl,rfl⟩
  ·have u:(op==35)=false:=by simpa using x
   have z:(op==36)=false:=by simpa using y
   have e:Sr.cN op=(op==41):=by unfold Sr.cN;by_cases h:op=41 <;> simp[x,y,h]
   rw[e];clear e;go_enter Tryz.func49,Tryz.ntmps49;go_wp2;go_ret;exact⟨rfl,rfl⟩
theorem Im (op:Int)(w:World) :
  Calls Tryz.prog 47 #[Aj op] w fun e w'=>e=.returned (.tuple #[Aj (Sr.cP op).1,.bool (Sr.cP op).2])∧w=w':=by
 go_enter Tryz.func47,Tryz.ntmps47;go_wp2
 all_goals (go_ret2;go_light;refine⟨?_,rfl⟩;simp_all [Sr.cP])
def Ew (r:Sr.bE):Value:=.agg #[Aj r.op,Aj r.d,Aj r.a,Aj r.b,Aj r.n]
def Cg:List Sr.bE→List Value
 | []=>[]
 |x::r=>Aj x.op::Aj x.d::Aj x.a::Aj x.b::Aj x.n::Cg r
theorem Kn (l:List Sr.bE):(Cg l).length=l.length*5:=by induction l with|nil=>rfl|cons c r ih=>simp[Cg,ih];omega
theorem Fq (l:List Sr.bE):∀(i:Nat) (c:Sr.bE),l[i]?=some c→(Cg l)[i*5]?=some (Aj c.op)∧(Cg l)[i*5+1]?=some (Aj c.d)∧(Cg l)[i*5+2]?=some (Aj c.a)∧(Cg l)[i*5+3]?=some (Aj c.b)∧(Cg l)[i*5+4]?=some (Aj c.n):=by
 induction l with
 |nil=>intro i c h;simp at h
 |cons d r ih =>
  intro i c h;cases i with
  |zero=>simp at h;subst h;simp[Cg]
  |succ i =>
   have:=ih i c (by simpa using h);rw[show (i+1)*5=i*5+5 by omega]
   simpa [Cg]using this
theorem Ql (a b:List Sr.bE):Cg (a++b)=Cg a++Cg b:=by
 induction a with
 |nil=>rfl
 |cons p r ih=>simp[Cg,ih]
def Zhu (k:Nat)(d a b u:Int):Prop :=
 (1≤k→u % 2=0∨Sr.rg d=true)∧(2≤k→u / 2 % 2=0∨Sr.rg a=true)∧(3≤k→u / 4 % 2=0∨Sr.rg b=true)
theorem Yu (r:Sr.bE)(u:Int)(w:World)(l:0≤u)(m:u≤7) :
  Calls Tryz.prog 48 #[Ew r,Aj u] w fun e w'=>e=.returned (.bool (Sr.eY r u))∧Below w.heap.size w w':=by
 obtain⟨op,d,a,b,n⟩:=r;have h:u=0∨u=1∨u=2∨u=3∨u=4∨u=5∨u=6∨u=7:=by omega
 have Y:∀w:World,(Instr.index 170 (.agg #[Aj d,Aj a,Aj b]) (Aj 0)).run Tryz.prog w=.ok (Aj d) w:=fun _=>by kernel_rfl
 have X:∀w:World,(Instr.index 170 (.agg #[Aj d,Aj a,Aj b]) (Aj 1)).run Tryz.prog w=.ok (Aj a) w:=fun _=>by kernel_rfl
 have K:∀w:World,(Instr.index 170 (.agg #[Aj d,Aj a,Aj b]) (Aj 2)).run Tryz.prog w=.ok (Aj b) w:=fun _=>by kernel_rfl
 unfold Ew;have j:bits BinOp.and IntKind.i64 u 1=u % 2:=by rcases h with rfl|rfl|rfl|rfl|rfl|rfl|rfl|rfl <;> kernel_rfl
 have H:bits BinOp.and IntKind.i64 u 2=u / 2 % 2*2:=by rcases h with rfl|rfl|rfl|rfl|rfl|rfl|rfl|rfl <;> kernel_rfl
 have g:bits BinOp.and IntKind.i64 u 4=u / 4 % 2*4:=by rcases h with rfl|rfl|rfl|rfl|rfl|rfl|rfl|rfl <;> kernel_rfl
 generalize s:u=Z at *;rcases h with rfl|rfl|rfl|rfl|rfl|rfl|rfl|rfl
 all_goals
  have p:=Aq s;clear l m s;simp only[Int.reduceMod,Int.reduceDiv,Int.reduceMul]at j H g;go_enter Tryz.func48,Tryz.ntmps48;go_wp2_with fail
  go_loopw [14] (fun i wr=>∃k:Nat,k≤3∧i=Aj k∧wr=w.alloc (.cells #[Aj op,Aj d,Aj a,Aj b,Aj n] 50)∧Zhu k d a b u) (fun i _=>3-(intOf i).toNat)
  case atStart=>exact⟨0,by omega,rfl,rfl,⟨fun h=>absurd h (by decide),fun h=>absurd h (by decide),fun h=>absurd h (by decide)⟩⟩
  case round =>
   obtain⟨k,U,rfl,rfl,c⟩:=hrel;have q:=Aq c;clear c;rcases(show k=0∨k=1∨k=2∨k=3 by omega) with rfl|rfl|rfl|rfl
   ·rcases(show (0≤d∧d<64)∨d<0∨64≤d by omega) with⟨x,f⟩|x|x
    all_goals
     go_wp2
     first
     |exact⟨⟨1,by omega,rfl,trivial,⟨fun _=>by rw[p.o];simp[Sr.rg] <;> omega,fun h=>absurd h (by decide),fun h=>absurd h (by decide)⟩⟩,by simp[intOf]⟩
     | (go_ret
        exact⟨Cs (by simp[Sr.eY,Sr.rg];omega),aI.alloc Aw _⟩)
   ·rcases(show (0≤a∧a<64)∨a<0∨64≤a by omega) with⟨x,f⟩|x|x
    all_goals
     go_wp2
     first
     |exact⟨⟨2,by omega,rfl,trivial,⟨fun _=>q.o.1 (by decide),fun _=>by rw[p.o];simp[Sr.rg] <;> omega,fun h=>absurd h (by decide)⟩⟩,by simp[intOf]⟩
     | (go_ret
        exact⟨Cs (by simp[Sr.eY,Sr.rg];omega),aI.alloc Aw _⟩)
   ·rcases(show (0≤b∧b<64)∨b<0∨64≤b by omega) with⟨x,f⟩|x|x
    all_goals
     go_wp2
     first
     |exact⟨⟨3,by omega,rfl,trivial,⟨fun _=>q.o.1 (by decide),fun _=>q.o.2.1 (by decide),fun _=>by rw[p.o];simp[Sr.rg] <;> omega⟩⟩,by simp[intOf]⟩
     | (go_ret
        exact⟨Cs (by simp[Sr.eY,Sr.rg];omega),aI.alloc Aw _⟩)
   ·go_wp2;go_ret;refine⟨Cs ?_,aI.alloc Aw _⟩;obtain⟨y,v,z⟩:=q.o;have y:=y (by decide);have v:=v (by decide);have z:=z (by decide);rw[p.o]at y v z;unfold Sr.eY;simp at y v z ⊢
    try simp[y,v,z]
theorem Sr.dy:∀{aA:List Sr.bE},(∀(i:Nat) r,aA[i]?=some r→Sr.dm r ((aA.length:Int)-1-i)=true)→Sr.fitsAll aA=true
 | [],_=>rfl
 |x::l,h=>by
  have y:=h 0 x rfl;rw[show (((x::l).length:Nat):Int)-1-(0:Nat)=l.length by rw[Bo];omega]at y;simp only[Sr.fitsAll,y,Bool.true_and];refine Sr.dy fun i r z=>?_
  have:=h (i+1) r (by simpa using z);rw[show (((x::l).length:Nat):Int)-1-((i+1:Nat):Int)=(l.length:Int)-1-i by rw[Bo];omega]at this;exact this
theorem Sr.ky {aA:List Sr.bE}{i:Nat}{r:Sr.bE} (h:aA[i]?=some r) (x:Sr.dm r ((aA.length:Int)-1-i)=false):Sr.right aA=false:=by
 have:Sr.fitsAll aA=false:=by
  cases y:Sr.fitsAll aA with
  |false=>rfl
  |true=>rw[Sr.dx y h]at x;cases x
 unfold Sr.right;rw[this];simp
theorem Sr.lT (op:Int):0≤(Sr.cP op).1∧(Sr.cP op).1≤7:=by
 unfold Sr.cP
 repeat' split
 all_goals exact⟨by decide,by decide⟩
theorem Gj (A:Option Addr)(c B:Nat)(aA:List Sr.bE)(w:World) (T:aE w B 5 A aA.length (Cg aA)) (hB:B≤w.heap.size) (hn:aA.length≤1000000000000) :
  Calls Tryz.prog 21 #[.slice A aA.length c] w fun e w'=>e=.returned (.bool (Sr.right aA))∧Below w.heap.size w w':=by
 have HR:=Aq T;clear T;by_cases h0:aA.length<1
 ·have x:Sr.right aA=false:=by unfold Sr.right;rw[decide_eq_false (by omega)];rfl
  rw[x];clear x;generalize aA.length=n at *;go_enter Tryz.func21,Tryz.ntmps21;go_wp2;go_ret;exact⟨rfl,aI⟩
 by_cases h1:80000<aA.length
 ·have x:Sr.right aA=false:=by unfold Sr.right;rw[decide_eq_false (by omega)];rfl
  rw[x];clear x;generalize aA.length=n at *;go_enter Tryz.func21,Tryz.ntmps21;go_wp2;go_ret;exact⟨rfl,aI⟩
 go_enter Tryz.func21,Tryz.ntmps21;go_wp2_with fail
 go_loopw [19] (fun i wr=>∃k:Nat,k≤aA.length∧i=Aj k∧(∀(j:Nat) r,j<k→aA[j]?=some r→Sr.dm r ((aA.length:Int)-1-j)=true)∧Below w.heap.size w wr) (fun i _=>aA.length-(intOf i).toNat)
 case atStart=>exact⟨0,by omega,rfl,fun j r h=>absurd h (by omega),aI⟩
 case round =>
  obtain⟨k,hk,rfl,hr,V⟩:=hrel;have F:=Aq hr;clear hr;have HN:=V.size;have g:aE wr B 5 A aA.length (Cg aA):=HR.o.below V hB;by_cases HF:k<aA.length
  ·obtain⟨r,x⟩:∃r,aA[k]?=some r:=⟨_,Bg HF⟩;obtain⟨b,off,rfl,d4,z⟩:=g.2 (by omega);obtain⟨g0,g1,g2,M,K⟩:=Fq aA k r x;have O:=z _ _ g0;have D:=z _ _ g1;have I:=z _ _ g2;have S:=z _ _ M;have s:=z _ _ K;rw[←Lb]at D I S s;have L:=Aq x;have b':=Aq g;clear z g0 g1 g2 M K x g;obtain⟨op,d,a,y,n⟩:=r;simp only at O D I S s;go_wp2_with fail
   refine(Im op _).mono ?_;rintro e w1⟨rfl,rfl⟩;obtain⟨u,ok,G⟩:∃u ok,Sr.cP op=(u,ok):=⟨_,_,rfl⟩;have J:=Sr.lT op;rw[G]at J ⊢;dsimp only at J;obtain⟨g4,hN⟩:=J;have E:=Aq G;clear G;have Z:Hid (∀w2,Below w.heap.size w w2→Sr.dm ⟨op,d,a,y,n⟩ ((aA.length:Int)-1-k)=false→Ending.returned (Value.bool false)=.returned (.bool (Sr.right aA))∧Below w.heap.size w w2):=Aq fun w2 h2 hf=>⟨Cs (Sr.ky L.o hf).symm,h2⟩
   have C:Below w.heap.size w (wr.alloc (.cells #[Aj op,Aj d,Aj a,Aj y,Aj n] 50)):=V.alloc HN _;cases ok with
   |false =>
    go_wp2;go_ret;exact Z.o _ C (by unfold Sr.dm;rw[E.o];rfl)
   |true =>
    by_cases q:(op=42∧k+1=aA.length)∨(op≠42∧k+1<aA.length)
    ·have v:Sr.dm ⟨op,d,a,y,n⟩ ((aA.length:Int)-1-k)=(Sr.eY ⟨op,d,a,y,n⟩ u && (!Sr.cN op || decide (0≤n∧n<(aA.length:Int)-1-k))):=by
      unfold Sr.dm;rw[E.o];rcases q with⟨h,H⟩|⟨h,H⟩
      ·subst h;rw[decide_eq_true (show (42:Int)=42 from rfl),decide_eq_true (show (aA.length:Int)-1-k=0 by omega)];simp
      ·rw[decide_eq_false h,decide_eq_false (show ¬ (aA.length:Int)-1-k=0 by omega)];simp
     have R:=Aq v;clear v;have W:(op==42)=((aA.length:Int)-1-k==0):=by
      rcases q with⟨h,H⟩|⟨h,H⟩
      ·subst h;rw[show ((aA.length:Int)-1-k==0)=true from beq_iff_eq.2 (by omega)];rfl
      ·rw[show (op==42)=false from beq_eq_false_iff_ne.2 h,show ((aA.length:Int)-1-k==0)=false from beq_eq_false_iff_ne.2 (by omega)]
     clear q;go_wp2_with fail
     refine(Yu ⟨op,d,a,y,n⟩ u _ g4 hN).mono ?_;rintro e w2⟨rfl,U⟩;have l:Below w.heap.size w w2:=C.trans (U.mono (by simp;omega));have c0:w2.cell? ⟨wr.heap.size,0,none⟩=some (Aj op):=by rw[U.cell (by simp)];simp[go_sem]
     have c4:w2.cell? ⟨wr.heap.size,4,none⟩=some (Aj n):=by rw[U.cell (by simp)];simp[go_sem]
     cases P:Sr.eY ⟨op,d,a,y,n⟩ u with
     |false =>
      have X:=Aq P;clear P;go_wp2;go_ret;exact Z.o _ l (by rw[R.o,X.o];rfl)
     |true =>
      have X:=Aq P;clear P U O D I S s;go_wp2_with fail
      refine(Zbl op _).mono ?_;rintro e w3⟨rfl,rfl⟩;cases f:Sr.cN op with
      |false =>
       have p:=Aq (show Sr.dm ⟨op,d,a,y,n⟩ ((aA.length:Int)-1-k)=true by rw[R.o,X.o,f];rfl);clear f c0 c4;go_wp2;exact⟨⟨k+1,by omega,by go_num,fun j r hj x=>by
        rcases le j k with h|h
        ·exact F.o j r h x
        ·obtain rfl:j=k:=by omega
         rw[L.o]at x
         injection x with x
         subst x;exact p.o,l⟩,by simp[intOf];omega⟩
      |true =>
       by_cases Y:0≤n∧n<(aA.length:Int)-1-k
       ·have p:=Aq (show Sr.dm ⟨op,d,a,y,n⟩ ((aA.length:Int)-1-k)=true by rw[R.o,X.o,f,decide_eq_true Y];rfl);clear f;obtain⟨hm,h'⟩:=Y;go_wp2;exact⟨⟨k+1,by omega,by go_num,fun j r hj x=>by
         rcases le j k with h|h
         ·exact F.o j r h x
         ·obtain rfl:j=k:=by omega
          rw[L.o]at x
          injection x with x
          subst x;exact p.o,l⟩,by simp[intOf];omega⟩
       ·have p:=Aq (show Sr.dm ⟨op,d,a,y,n⟩ ((aA.length:Int)-1-k)=false by rw[R.o,X.o,f,decide_eq_false Y];rfl);clear f;by_cases hm:0≤n
        ·have h':(aA.length:Int)-1-k≤n:=by omega
         clear Y;go_wp2;go_ret;exact Z.o _ l p.o
        ·clear Y;go_wp2;go_ret;exact Z.o _ l p.o
    ·have W:¬ (op==42)=((aA.length:Int)-1-k==0):=by
      intro h;by_cases Q:op=42
      ·rw[Q]at h;have:=beq_iff_eq.1 h.symm;exact q (.inl ⟨Q,by omega⟩)
      ·rw[beq_eq_false_iff_ne.2 Q]at h;have:=beq_eq_false_iff_ne.1 h.symm;exact q (.inr ⟨Q,by omega⟩)
     have v:Sr.dm ⟨op,d,a,y,n⟩ ((aA.length:Int)-1-k)=false:=by
      unfold Sr.dm;rw[E.o];have:(decide (op=42)==decide ((aA.length:Int)-1-k=0))=false:=by
       refine beq_eq_false_iff_ne.2 fun h=>W ?_
       have H:(op=42)↔((aA.length:Int)-1-k=0):=by simpa using h
       rw[Bool.eq_iff_iff,beq_iff_eq,beq_iff_eq];exact H
      simp only[this,Bool.and_false,Bool.false_and]
     have p:=Aq v;clear q v;go_wp2;go_ret;exact Z.o _ C p.o
  ·obtain rfl:k=aA.length:=by omega
   obtain⟨r,x⟩:∃r,aA[aA.length-1]?=some r:=⟨_,Bg (by omega)⟩;have v:Sr.fitsAll aA=true:=Sr.dy fun i r x=>F.o i r (aS.1 x).1 x
   have N:Sr.right aA=decide (0≤r.n∧r.n≤64):=by
    unfold Sr.right;rw[v,qm,x,decide_eq_true (show 1≤aA.length∧aA.length≤80000 by omega)];simp
   have HT:=Aq N;clear N v;obtain⟨b,off,rfl,d4,z⟩:=g.2 (by omega);obtain⟨_,_,_,_,K⟩:=Fq aA _ r x;have s:=z _ _ K;rw[←Lb]at s;have b':=Aq g;clear z K x g;obtain⟨op,d,a,y,n⟩:=r;simp only at s;have q:(aA.length:Int)-1=((aA.length-1:Nat):Int):=by omega
   have hb:aA.length-1<aA.length:=by omega
   generalize aA.length-1=m at *;go_wp2
   all_goals
    go_ret;exact⟨Cs (by rw[HT.o];simp;omega),V⟩
section
variable {w w' : World} {sb : Nat} {L : bK} {s : Sr.St}
theorem au.drew (h:au w sb L s):au w.drew sb L s:=h.aQ fun _ _=>rfl
theorem au.alloc (h:au w sb L s)(o:Obj):au (w.alloc o) sb L s:=h.aQ fun k x=>oW _ _ _ (h.lt x)
theorem au.rk (h:au w sb L s){i:Nat}(hi:i<64):bI (s.aW.getD i 0):=by
 rw[Bn,Bg (by rw[h.ok.rl];exact hi)];exact h.ok.rk _ (qn _)
theorem bB.bL {e:Ending}{w1 w2:World} (h:Fr (eZ L sb) w w1) (k:bB w1 sb L s e w2):bB w sb L s e w2:=⟨k.1,k.2.1,h.trans k.2.2⟩
end
theorem Io (w:World)(sb:Nat)(L:bK)(s:Sr.St)(h:au w sb L s)(op n:Int)(d a:Nat)(b:Int)(p:d<64)(l:a<64)(u f:Nat) (y:aH w u 117 #[.func (.func f) #[] #[]]) (v:Int) (Z:∀args w,Sem.run Tryz.prog (callFunc f args) w=.ok (.enter f args) w)
  (q:∀w,Calls Tryz.prog f #[Aj (s.aW.getD a 0)] w fun e w'=>e=.returned (Aj v)∧w=w') :
  Calls Tryz.prog 224 #[.pointer (some ⟨sb,0,none⟩),Ew ⟨op,d,a,b,n⟩,.pointer (some ⟨u,0,none⟩)] w (bB w sb L { s with aW:=s.aW.set d (bA v) }):=by
 unfold Ew;have H:=Aq h;have m:=Aq q;have P:=Aq y;have Q:=h.aG.lt;have R:(a:Int)<64:=by omega
 have Y:(d:Int)<64:=by omega
 have U:=y.lt;have r:=(h.alloc (.cells #[Aj op,Aj (d:Int),Aj (a:Int),Aj (b:Int),Aj n] 50)).fR l;have c0:=(h.alloc (.cells #[Aj op,Aj (d:Int),Aj (a:Int),Aj (b:Int),Aj n] 50)).fR p;have k:=(y.alloc (.cells #[Aj op,Aj (d:Int),Aj (a:Int),Aj (b:Int),Aj n] 50)).cell 0;simp only[Az,Ay]at k;clear h q y;go_enter Tryz.func224,Tryz.ntmps224;go_wp2_with fail
 have X:(w.alloc (.cells #[Aj op,Aj (d:Int),Aj (a:Int),Aj (b:Int),Aj n] 50)).cell? ⟨w.heap.size,1,none⟩=some (Aj (d:Int)):=(qv w _ _).cell 1;have g:(w.alloc (.cells #[Aj op,Aj (d:Int),Aj (a:Int),Aj (b:Int),Aj n] 50)).cell? ⟨w.heap.size,2,none⟩=some (Aj (a:Int)):=(qv w _ _).cell 2;have c:Hid (bB w sb L { s with aW:=s.aW.set d (bA v) } (.returned (.tuple #[])) ((w.alloc (.cells #[Aj op,Aj (d:Int),Aj (a:Int),Aj (b:Int),Aj n] 50)).drew.setCell ⟨sb,d,none⟩ (Aj (bA v)))):=Aq ⟨rfl,(H.o.alloc _).drew.jT p (Fg v),((qu _ w).alloc _).drew.setCell (.inl (.inl rfl)) _⟩;have V:(w.alloc (.cells #[Aj op,Aj (d:Int),Aj (a:Int),Aj (b:Int),Aj n] 50)).drew.frozen? ⟨sb,d,none⟩=false:=(H.o.alloc _).drew.aG.frozen d;generalize (w.alloc (.cells #[Aj op,Aj (d:Int),Aj (a:Int),Aj (b:Int),Aj n] 50))=W at *;have z:W.drew.cell? ⟨w.heap.size,1,none⟩=some (Aj (d:Int))∧W.drew.cell? ⟨u,0,none⟩=some (.func (.func f) #[] #[])∧W.drew.cell? ⟨w.heap.size,2,none⟩=some (Aj (a:Int))∧W.drew.cell? ⟨sb,a,none⟩=some (Aj (s.aW.getD a 0)):=⟨X,k,g,r⟩;refine Bq (fun i=>!([11,12,16]:List Nat).contains i) (fun i=>([2,3,6,10]:List Nat).contains i) (fun i=>([11,12]:List Nat).contains i) [0,1,2,3,4,5,6,7,8,9,10,13,14,11,12,15,16] (fun wq:World=>wq.cell? ⟨w.heap.size,1,none⟩=some (Aj (d:Int))∧wq.cell? ⟨u,0,none⟩=some (.func (.func f) #[] #[])∧wq.cell? ⟨w.heap.size,2,none⟩=some (Aj (a:Int))∧wq.cell? ⟨sb,a,none⟩=some (Aj (s.aW.getD a 0))) (by kernel_rfl) (by kernel_rfl) (by kernel_rfl) (by kernel_rfl) ?_
 repeat (first|refine Be ?_|refine Bj z ?_)
 refine Bi fun K x=>?_;go_simp
 refine(m.o _).mono ?_;rintro e j⟨rfl,rfl⟩;dsimp only;refine x _ _ (fun _=>z) ?_;clear x K;refine Bi fun K x=>?_;go_simp
 refine(Dy _ _).mono ?_;rintro e j⟨rfl,rfl⟩;dsimp only;refine x _ _ (fun _=>z) ?_;clear x K
 repeat (first|refine Be ?_|refine Bj z ?_)
 refine Bi fun K x=>?_;go_simp
 refine Bh x ?_;clear x K;refine Bb ?_;go_wp2;go_end0;exact c.o
theorem Fa (w:World)(sb:Nat)(L:bK)(s:Sr.St)(h:au w sb L s)(op n:Int)(d a b:Nat)(p:d<64)(l:a<64)(Y:b<64)(u f:Nat) (y:aH w u 74 #[.func (.func f) #[] #[]]) (v:Int) (P:∀args w,Sem.run Tryz.prog (callFunc f args) w=.ok (.enter f args) w)
  (q:∀w,Calls Tryz.prog f #[Aj (s.aW.getD a 0),Aj (s.aW.getD b 0)] w fun e w'=>e=.returned (Aj v)∧w=w') :
  Calls Tryz.prog 225 #[.pointer (some ⟨sb,0,none⟩),Ew ⟨op,d,a,b,n⟩,.pointer (some ⟨u,0,none⟩)] w (bB w sb L { s with aW:=s.aW.set d (bA v) }):=by
 unfold Ew;have H:=Aq h;have m:=Aq q;have A:=Aq y;have B:=h.aG.lt;have C:(a:Int)<64:=by omega
 have Q:(b:Int)<64:=by omega
 have V:(d:Int)<64:=by omega
 have R:=y.lt;have r:=(h.alloc (.cells #[Aj op,Aj (d:Int),Aj (a:Int),Aj ((b:Nat):Int),Aj n] 50)).fR l;have Z:=(h.alloc (.cells #[Aj op,Aj (d:Int),Aj (a:Int),Aj ((b:Nat):Int),Aj n] 50)).fR Y;have c0:=(h.alloc (.cells #[Aj op,Aj (d:Int),Aj (a:Int),Aj ((b:Nat):Int),Aj n] 50)).fR p;have k:=(y.alloc (.cells #[Aj op,Aj (d:Int),Aj (a:Int),Aj ((b:Nat):Int),Aj n] 50)).cell 0;simp only[Az,Ay]at k;clear h q y;go_enter Tryz.func225,Tryz.ntmps225;go_wp2_with fail
 have U:(w.alloc (.cells #[Aj op,Aj (d:Int),Aj (a:Int),Aj ((b:Nat):Int),Aj n] 50)).cell? ⟨w.heap.size,1,none⟩=some (Aj (d:Int)):=(qv w _ _).cell 1;have g:(w.alloc (.cells #[Aj op,Aj (d:Int),Aj (a:Int),Aj ((b:Nat):Int),Aj n] 50)).cell? ⟨w.heap.size,2,none⟩=some (Aj (a:Int)):=(qv w _ _).cell 2;have X:(w.alloc (.cells #[Aj op,Aj (d:Int),Aj (a:Int),Aj ((b:Nat):Int),Aj n] 50)).cell? ⟨w.heap.size,3,none⟩=some (Aj (b:Int)):=(qv w _ _).cell 3;have c:Hid (bB w sb L { s with aW:=s.aW.set d (bA v) } (.returned (.tuple #[])) ((w.alloc (.cells #[Aj op,Aj (d:Int),Aj (a:Int),Aj ((b:Nat):Int),Aj n] 50)).drew.setCell ⟨sb,d,none⟩ (Aj (bA v)))):=Aq ⟨rfl,(H.o.alloc _).drew.jT p (Fg v),((qu _ w).alloc _).drew.setCell (.inl (.inl rfl)) _⟩;have S:(w.alloc (.cells #[Aj op,Aj (d:Int),Aj (a:Int),Aj ((b:Nat):Int),Aj n] 50)).drew.frozen? ⟨sb,d,none⟩=false:=(H.o.alloc _).drew.aG.frozen d;generalize (w.alloc (.cells #[Aj op,Aj (d:Int),Aj (a:Int),Aj ((b:Nat):Int),Aj n] 50))=W at *;have z:W.drew.cell? ⟨w.heap.size,1,none⟩=some (Aj (d:Int))∧W.drew.cell? ⟨u,0,none⟩=some (.func (.func f) #[] #[])∧W.drew.cell? ⟨w.heap.size,2,none⟩=some (Aj (a:Int))∧W.drew.cell? ⟨sb,a,none⟩=some (Aj (s.aW.getD a 0))∧W.drew.cell? ⟨w.heap.size,3,none⟩=some (Aj (b:Int))∧W.drew.cell? ⟨sb,b,none⟩=some (Aj (s.aW.getD b 0)):=⟨U,k,g,r,X,Z⟩
 refine Bq (fun i=>!([18,19,23]:List Nat).contains i) (fun i=>([2,3,6,10,13,17]:List Nat).contains i) (fun i=>([18,19]:List Nat).contains i) [0,1,2,3,4,5,6,7,8,9,10,11,12,13,14,15,16,17,20,21,18,19,22,23] (fun wq:World=>wq.cell? ⟨w.heap.size,1,none⟩=some (Aj (d:Int))∧wq.cell? ⟨u,0,none⟩=some (.func (.func f) #[] #[])∧wq.cell? ⟨w.heap.size,2,none⟩=some (Aj (a:Int))∧wq.cell? ⟨sb,a,none⟩=some (Aj (s.aW.getD a 0))∧wq.cell? ⟨w.heap.size,3,none⟩=some (Aj (b:Int))∧wq.cell? ⟨sb,b,none⟩=some (Aj (s.aW.getD b 0))) (by kernel_rfl) (by kernel_rfl) (by kernel_rfl) (by kernel_rfl) ?_
 repeat (first|refine Be ?_|refine Bj z ?_)
 refine Bi fun K x=>?_;go_simp
 refine(m.o _).mono ?_;rintro e j⟨rfl,rfl⟩;dsimp only;refine x _ _ (fun _=>z) ?_;clear x K;refine Bi fun K x=>?_;go_simp
 refine(Dy _ _).mono ?_;rintro e j⟨rfl,rfl⟩;dsimp only;refine x _ _ (fun _=>z) ?_;clear x K
 repeat (first|refine Be ?_|refine Bj z ?_)
 refine Bi fun K x=>?_;go_simp
 refine Bh x ?_;clear x K;refine Bb ?_;go_wp2;go_end0;exact c.o
theorem au.box {w W:World}{sb:Nat}{L:bK}{s:Sr.St}{op d a b n:Int}(h:au w sb L s) (y:w.alloc (.cells #[Aj op,Aj d,Aj a,Aj b,Aj n] 50)=W) :
  W.cell? ⟨w.heap.size,0,none⟩=some (Aj op)∧W.cell? ⟨w.heap.size,1,none⟩=some (Aj d)∧W.cell? ⟨w.heap.size,2,none⟩=some (Aj a)∧W.cell? ⟨w.heap.size,3,none⟩=some (Aj b)∧W.cell? ⟨w.heap.size,4,none⟩=some (Aj n)∧Hid (au W sb L s)∧Hid (Fr (eZ L sb) w W)∧w.heap.size<W.heap.size:=by
 subst y;have x:=qv w 50 #[Aj op,Aj d,Aj a,Aj b,Aj n];exact⟨x.cell 0,x.cell 1,x.cell 2,x.cell 3,x.cell 4,Aq (h.alloc _),Aq ((qu _ w).alloc _),by simp⟩
end
section
open Go.RowKit Mc
section
variable {w w' w1 : World} {sb : Nat} {L : bK} {s : Sr.St}
theorem au.jW (h:au w sb L s){i:Nat}(hi:i<64):∃x,s.aW.getD i 0=x∧w.cell? ⟨sb,i,none⟩=some (Aj x)∧bI x:=⟨_,rfl,h.fR hi,h.rk hi⟩
theorem bB.put (h:au w1 sb L s) (z:Fr (eZ L sb) w w1) {d:Nat} (y:d<64) {x:Int} (u:bI x):bB w sb L { s with aW:=s.aW.set d x } (.returned (.tuple #[])) (w1.setCell ⟨sb,d,none⟩ (Aj x)) :=
 ⟨rfl,h.jT y u,z.setCell (.inl (.inl rfl)) _⟩
theorem bB.dD (h:au w1 sb L s) (x:Fr (eZ L sb) w w1):bB w sb L s (.returned (.tuple #[])) w1:=⟨rfl,h,x⟩
end
theorem at_k {l:List Int}{x:Int}(y:∀x∈l,bI x):bI (aK l x):=by
 unfold aK;split
 ·rw[Bn,Bg (by omega)];exact y _ (qn _)
 ·exact⟨by decide,by decide⟩
theorem Pz (w:World)(sb:Nat)(L:bK)(s:Sr.St)(h:au w sb L s)(op n b:Int)(d a:Nat)(Z:d<64)(U:a<64)(v:Value)(l:List Int)(hl:l.length≤1000000) (P:w.ownsRow 0 3 1 v l.length (ae l)) (C:∀x∈l,bI x) :
  Calls Tryz.prog 128 #[.pointer (some ⟨sb,0,none⟩),v,Ew ⟨op,d,a,b,n⟩] w (bB w sb L { s with aW:=s.aW.set d (aK l (s.aW.getD a 0)) }):=by
 unfold Ew;have H:=Aq h;have r2:(a:Int)<64:=by omega
 have T:(d:Int)<64:=by omega
 have hS:=h.aG.lt;obtain⟨x,r,u,c1⟩:=h.jW U;have Q:=Aq r;rw[r];obtain⟨A,c,rfl,I,M⟩:=Ba P;have J:=Aq (at_k (x:=x) C);have O:=Aq P;have V:=Aq (show ∀(y:Int),y=aK l x→∀W,au W sb L s→Fr (eZ L sb) w W→bB w sb L { s with aW:=s.aW.set d (aK l x) } (.returned (.tuple #[])) (W.setCell ⟨sb,d,none⟩ (Aj y)) from fun y X W D G=>by
  subst X;exact .put D G Z J.o)
 clear h r P C I M u;by_cases r:0≤x∧x<l.length
 ·obtain⟨i,rfl⟩:∃i:Nat,x=i:=⟨x.toNat,by omega⟩;have N:i<l.length:=by omega
  obtain⟨y,X⟩:∃y,l[i]?=some y:=⟨_,Bg N⟩;have e:=Aq (Zhe X);obtain⟨g,c',R,_,_,E,S⟩:=Ce O.o (by omega);have Y:=S i _ (Ck X)
  injection R with R
  subst R;clear S r X;go_enter Tryz.func128,Tryz.ntmps128;go_wp2_with fail
  have q:(w.alloc (.cells #[Aj op,Aj (d:Int),Aj (a:Int),Aj (b:Int),Aj n] 50)).cell? ⟨w.heap.size,1,none⟩=some (Aj (d:Int)):=(qv w _ _).cell 1;have k:(w.alloc (.cells #[Aj op,Aj (d:Int),Aj (a:Int),Aj (b:Int),Aj n] 50)).cell? ⟨w.heap.size,2,none⟩=some (Aj (a:Int)):=(qv w _ _).cell 2;have m:(w.alloc (.cells #[Aj op,Aj (d:Int),Aj (a:Int),Aj (b:Int),Aj n] 50)).cell? ⟨w.heap.size,3,none⟩=some (Aj (b:Int)):=(qv w _ _).cell 3;have H1:=Aq (H.o.alloc (.cells #[Aj op,Aj (d:Int),Aj (a:Int),Aj (b:Int),Aj n] 50));have p:=Aq ((qu (eZ L sb) w).alloc (.cells #[Aj op,Aj (d:Int),Aj (a:Int),Aj (b:Int),Aj n] 50));have j:w.heap.size<(w.alloc (.cells #[Aj op,Aj (d:Int),Aj (a:Int),Aj (b:Int),Aj n] 50)).heap.size:=by simp
  have Y:(w.alloc (.cells #[Aj op,Aj (d:Int),Aj (a:Int),Aj (b:Int),Aj n] 50)).cell? ⟨g,i,none⟩=some (Aj y):=by simpa [go_sem,E]using Y
  generalize (w.alloc (.cells #[Aj op,Aj (d:Int),Aj (a:Int),Aj (b:Int),Aj n] 50))=W at *;have u:=H1.o.fR U;rw[Q.o]at u;have z:W.drew.cell? ⟨w.heap.size,2,none⟩=some (Aj (a:Int))∧W.drew.cell? ⟨sb,a,none⟩=some (Aj (i:Int)):=⟨k,u⟩;refine Cr [] [2,6] [] 9 (fun wq:World=>wq.cell? ⟨w.heap.size,2,none⟩=some (Aj (a:Int))∧wq.cell? ⟨sb,a,none⟩=some (Aj (i:Int))) ?_
  repeat (first|refine Be ?_|refine Bj z ?_)
  refine Bb ?_;clear u;have H1:=Aq H1.o.drew;have p:=Aq p.o.drew
  replace q:W.drew.cell? ⟨w.heap.size,1,none⟩=some (Aj (d:Int)):=q
  replace k:W.drew.cell? ⟨w.heap.size,2,none⟩=some (Aj (a:Int)):=k
  replace m:W.drew.cell? ⟨w.heap.size,3,none⟩=some (Aj (b:Int)):=m
  replace j:w.heap.size<W.drew.heap.size:=j
  replace Y:W.drew.cell? ⟨g,i,none⟩=some (Aj y):=Y
  clear z;generalize W.drew=W at *;go_wp2_with fail
  have B:=H1.o.drew.aG.frozen d;have c0:=H1.o.drew.fR Z;have z:W.drew.cell? ⟨w.heap.size,1,none⟩=some (Aj (d:Int)):=q;refine Cr [7] [2] [] 8 (fun wq:World=>wq.cell? ⟨w.heap.size,1,none⟩=some (Aj (d:Int))) ?_
  repeat (first|refine Be ?_|refine Bj z ?_)
  refine Bi fun K f=>?_;go_simp
  refine Bh f ?_;clear f K;refine Bb ?_;go_wp2;go_end0;exact V.o _ e.o.symm _ H1.o.drew p.o.drew
 ·have e:=Aq (lf r);by_cases F:0≤x
  ·have D:¬ x<l.length:=fun e=>r ⟨F,e⟩
   clear r;go_enter Tryz.func128,Tryz.ntmps128;go_wp2_with fail
   have q:(w.alloc (.cells #[Aj op,Aj (d:Int),Aj (a:Int),Aj (b:Int),Aj n] 50)).cell? ⟨w.heap.size,1,none⟩=some (Aj (d:Int)):=(qv w _ _).cell 1;have k:(w.alloc (.cells #[Aj op,Aj (d:Int),Aj (a:Int),Aj (b:Int),Aj n] 50)).cell? ⟨w.heap.size,2,none⟩=some (Aj (a:Int)):=(qv w _ _).cell 2;have m:(w.alloc (.cells #[Aj op,Aj (d:Int),Aj (a:Int),Aj (b:Int),Aj n] 50)).cell? ⟨w.heap.size,3,none⟩=some (Aj (b:Int)):=(qv w _ _).cell 3;have H1:=Aq (H.o.alloc (.cells #[Aj op,Aj (d:Int),Aj (a:Int),Aj (b:Int),Aj n] 50));have p:=Aq ((qu (eZ L sb) w).alloc (.cells #[Aj op,Aj (d:Int),Aj (a:Int),Aj (b:Int),Aj n] 50));have j:w.heap.size<(w.alloc (.cells #[Aj op,Aj (d:Int),Aj (a:Int),Aj (b:Int),Aj n] 50)).heap.size:=by simp
   skip
   generalize (w.alloc (.cells #[Aj op,Aj (d:Int),Aj (a:Int),Aj (b:Int),Aj n] 50))=W at *;have u:=H1.o.fR U;rw[Q.o]at u;have z:W.drew.cell? ⟨w.heap.size,2,none⟩=some (Aj (a:Int))∧W.drew.cell? ⟨sb,a,none⟩=some (Aj x):=⟨k,u⟩;refine Cr [] [2,6] [] 9 (fun wq:World=>wq.cell? ⟨w.heap.size,2,none⟩=some (Aj (a:Int))∧wq.cell? ⟨sb,a,none⟩=some (Aj x)) ?_
   repeat (first|refine Be ?_|refine Bj z ?_)
   refine Bb ?_;clear u;have H1:=Aq H1.o.drew;have p:=Aq p.o.drew
   replace q:W.drew.cell? ⟨w.heap.size,1,none⟩=some (Aj (d:Int)):=q
   replace k:W.drew.cell? ⟨w.heap.size,2,none⟩=some (Aj (a:Int)):=k
   replace m:W.drew.cell? ⟨w.heap.size,3,none⟩=some (Aj (b:Int)):=m
   replace j:w.heap.size<W.drew.heap.size:=j
   skip
   clear z;generalize W.drew=W at *;go_wp2_with fail
   have B:=H1.o.drew.aG.frozen d;have c0:=H1.o.drew.fR Z;have z:W.drew.cell? ⟨w.heap.size,1,none⟩=some (Aj (d:Int)):=q;refine Cr [7] [2] [] 8 (fun wq:World=>wq.cell? ⟨w.heap.size,1,none⟩=some (Aj (d:Int))) ?_
   repeat (first|refine Be ?_|refine Bj z ?_)
   refine Bi fun K f=>?_;go_simp
   refine Bh f ?_;clear f K;refine Bb ?_;go_wp2;go_end0;exact V.o _ e.o.symm _ H1.o.drew p.o.drew
  ·clear r;go_enter Tryz.func128,Tryz.ntmps128;go_wp2_with fail
   have q:(w.alloc (.cells #[Aj op,Aj (d:Int),Aj (a:Int),Aj (b:Int),Aj n] 50)).cell? ⟨w.heap.size,1,none⟩=some (Aj (d:Int)):=(qv w _ _).cell 1;have k:(w.alloc (.cells #[Aj op,Aj (d:Int),Aj (a:Int),Aj (b:Int),Aj n] 50)).cell? ⟨w.heap.size,2,none⟩=some (Aj (a:Int)):=(qv w _ _).cell 2;have m:(w.alloc (.cells #[Aj op,Aj (d:Int),Aj (a:Int),Aj (b:Int),Aj n] 50)).cell? ⟨w.heap.size,3,none⟩=some (Aj (b:Int)):=(qv w _ _).cell 3;have H1:=Aq (H.o.alloc (.cells #[Aj op,Aj (d:Int),Aj (a:Int),Aj (b:Int),Aj n] 50));have p:=Aq ((qu (eZ L sb) w).alloc (.cells #[Aj op,Aj (d:Int),Aj (a:Int),Aj (b:Int),Aj n] 50));have j:w.heap.size<(w.alloc (.cells #[Aj op,Aj (d:Int),Aj (a:Int),Aj (b:Int),Aj n] 50)).heap.size:=by simp
   skip
   generalize (w.alloc (.cells #[Aj op,Aj (d:Int),Aj (a:Int),Aj (b:Int),Aj n] 50))=W at *;have u:=H1.o.fR U;rw[Q.o]at u;have z:W.drew.cell? ⟨w.heap.size,2,none⟩=some (Aj (a:Int))∧W.drew.cell? ⟨sb,a,none⟩=some (Aj x):=⟨k,u⟩;refine Cr [] [2,6] [] 9 (fun wq:World=>wq.cell? ⟨w.heap.size,2,none⟩=some (Aj (a:Int))∧wq.cell? ⟨sb,a,none⟩=some (Aj x)) ?_
   repeat (first|refine Be ?_|refine Bj z ?_)
   refine Bb ?_;clear u;have H1:=Aq H1.o.drew;have p:=Aq p.o.drew
   replace q:W.drew.cell? ⟨w.heap.size,1,none⟩=some (Aj (d:Int)):=q
   replace k:W.drew.cell? ⟨w.heap.size,2,none⟩=some (Aj (a:Int)):=k
   replace m:W.drew.cell? ⟨w.heap.size,3,none⟩=some (Aj (b:Int)):=m
   replace j:w.heap.size<W.drew.heap.size:=j
   skip
   clear z;generalize W.drew=W at *;go_wp2_with fail
   have B:=H1.o.drew.aG.frozen d;have c0:=H1.o.drew.fR Z;have z:W.drew.cell? ⟨w.heap.size,1,none⟩=some (Aj (d:Int)):=q;refine Cr [7] [2] [] 8 (fun wq:World=>wq.cell? ⟨w.heap.size,1,none⟩=some (Aj (d:Int))) ?_
   repeat (first|refine Be ?_|refine Bj z ?_)
   refine Bi fun K f=>?_;go_simp
   refine Bh f ?_;clear f K;refine Bb ?_;go_wp2;go_end0;exact V.o _ e.o.symm _ H1.o.drew p.o.drew
end
end Go.Proofs.YtnhebmgibiomnaaGreat
