import Derived.Deep.Light
import Derived.Test.YtnhebmgibiomnaaGreatPi5
set_option linter.unusedVariables false
set_option linter.unusedSimpArgs false
set_option maxRecDepth 100000
set_option maxHeartbeats 8000000
namespace Go.Proofs.YtnhebmgibiomnaaGreat
section
open Go.RowKit Mc
namespace Sr
structure Ok (s:St):Prop where
 rl:s.aW.length=64
 rk:∀x∈s.aW,bI x
 m:Mc.Ok s.m
end Sr
structure bN where
 og:Value
 cu:Value
 tq:Value
 en:Value
 co:Value
 cv:Value
 st:Value
def Uv (L:bN)(s:Sr.St):List Value:=[L.og,L.cu,L.tq,L.en,L.co,L.cv,L.st,Aj s.m.size,Aj s.m.look,Aj s.m.move,Aj s.m.bG,Aj (s.pc:Int),Aj (s.steps:Int)]
def Es (L:bN)(s:Sr.St):Array Value:=(ae s.aW++Uv L s).toArray
theorem Zim {L:bN}{s:Sr.St}(x:s.aW.length=64){i:Nat}(hi:i<64):(Es L s)[i]?=some (Aj (s.aW.getD i 0)):=by
 unfold Es;rw[Az,Ez (by rw[Dg];omega)];unfold ae;rw[Cd,Bf (by omega),Bo,Bf (by omega)];rfl
theorem Gy {L:bN}{s:Sr.St}(x:s.aW.length=64)(j:Nat):(Es L s)[64+j]?=(Uv L s)[j]?:=by
 unfold Es;rw[Az,Dv (by rw[Dg];omega),Dg,x,pw]
theorem Wz {L:bN}{s:Sr.St}(x:s.aW.length=64){i:Nat}(hi:i<64)(v:Int):(Es L s).setIfInBounds i (Aj v)=Es L { s with aW:=s.aW.set i v } := by
 unfold Es;rw[oM,List.set_append_left _ _ (by rw[Dg];omega)];unfold ae;rw[pS];rfl
theorem Kn {L L':bN}{s s':Sr.St}(x:s.aW.length=64)(y:s'.aW=s.aW)(j:Nat)(u:Value) (z:(Uv L s).set j u=Uv L' s'):(Es L s).setIfInBounds (64+j) u=Es L' s':=by
 unfold Es;rw[oM,oS _ _ (by rw[Dg];omega),Dg,x,pw,z,y]
def eY (L:bN)(sb:Nat)(k:Nat):Prop:=k=sb∨L.cu.ownBlock=some k∨L.tq.ownBlock=some k∨L.cv.ownBlock=some k∨L.st.ownBlock=some k
structure ar (w:World) (sb:Nat) (L:bN) (s:Sr.St):Prop where
 aG:aH w sb 104 (Es L s)
 og:w.ownsRow 0 76 2 L.og s.m.aT.length (bu s.m.aT)
 cu:w.ownsRow 0 76 2 L.cu s.m.aF.length (bu s.m.aF)
 tq:w.ownsRow 0 3 1 L.tq s.m.aB.length (ae s.m.aB)
 en:w.ownsRow 0 3 1 L.en s.m.aJ.length (ae s.m.aJ)
 co:w.ownsRow 0 157 2 L.co s.m.bH.length (it s.m.bH)
 cv:w.ownsRow 0 3 1 L.cv s.m.aP.length (ae s.m.aP)
 st:w.ownsRow 0 3 1 L.st s.m.store.length (ae s.m.store)
 bS:au L.cu L.og
 di:au L.tq L.en
 dV:au L.tq L.cv
 dT:au L.tq L.st
 bV:au L.en L.cv
 dk:au L.en L.st
 dW:au L.cv L.st
 ok:Sr.Ok s
section
variable {w w' : World} {sb : Nat} {L : bN} {s : Sr.St}
theorem ar.fQ (h:ar w sb L s){i:Nat}(hi:i<64):w.cell? ⟨sb,i,none⟩=some (Aj (s.aW.getD i 0)):=(h.aG.cell i).trans (Zim h.ok.rl hi)
theorem ar.c64 (h:ar w sb L s):w.cell? ⟨sb,64,none⟩=some L.og:=(h.aG.cell 64).trans (Gy h.ok.rl 0)
theorem ar.gw (h:ar w sb L s):w.cell? ⟨sb,65,none⟩=some L.cu:=(h.aG.cell 65).trans (Gy h.ok.rl 1)
theorem ar.c66 (h:ar w sb L s):w.cell? ⟨sb,66,none⟩=some L.tq:=(h.aG.cell 66).trans (Gy h.ok.rl 2)
theorem ar.c67 (h:ar w sb L s):w.cell? ⟨sb,67,none⟩=some L.en:=(h.aG.cell 67).trans (Gy h.ok.rl 3)
theorem ar.c68 (h:ar w sb L s):w.cell? ⟨sb,68,none⟩=some L.co:=(h.aG.cell 68).trans (Gy h.ok.rl 4)
theorem ar.km (h:ar w sb L s):w.cell? ⟨sb,69,none⟩=some L.cv:=(h.aG.cell 69).trans (Gy h.ok.rl 5)
theorem ar.lW (h:ar w sb L s):w.cell? ⟨sb,70,none⟩=some L.st:=(h.aG.cell 70).trans (Gy h.ok.rl 6)
theorem ar.c71 (h:ar w sb L s):w.cell? ⟨sb,71,none⟩=some (Aj s.m.size):=(h.aG.cell 71).trans (Gy h.ok.rl 7)
theorem ar.ik (h:ar w sb L s):w.cell? ⟨sb,72,none⟩=some (Aj s.m.look):=(h.aG.cell 72).trans (Gy h.ok.rl 8)
theorem ar.gk (h:ar w sb L s):w.cell? ⟨sb,73,none⟩=some (Aj s.m.move):=(h.aG.cell 73).trans (Gy h.ok.rl 9)
theorem ar.c74 (h:ar w sb L s):w.cell? ⟨sb,74,none⟩=some (Aj s.m.bG):=(h.aG.cell 74).trans (Gy h.ok.rl 10)
theorem ar.jY (h:ar w sb L s):w.cell? ⟨sb,75,none⟩=some (Aj (s.pc:Int)):=(h.aG.cell 75).trans (Gy h.ok.rl 11)
theorem ar.nM (h:ar w sb L s):w.cell? ⟨sb,76,none⟩=some (Aj (s.steps:Int)):=(h.aG.cell 76).trans (Gy h.ok.rl 12)
theorem ar.aQ (h:ar w sb L s) (x:∀k,(k=sb∨L.og.ownBlock=some k∨L.cu.ownBlock=some k∨L.tq.ownBlock=some k∨L.en.ownBlock=some k∨L.co.ownBlock=some k∨L.cv.ownBlock=some k∨L.st.ownBlock=some k)→w'.heap[k]?=w.heap[k]?):ar w' sb L s :=
 ⟨(x sb (.inl rfl)).trans h.aG,Dd h.og (fun g e=>x g (by simp[e])),Dd h.cu (fun g e=>x g (by simp[e])),Dd h.tq (fun g e=>x g (by simp[e])),Dd h.en (fun g e=>x g (by simp[e])),Dd h.co (fun g e=>x g (by simp[e])),Dd h.cv (fun g e=>x g (by simp[e])),Dd h.st (fun g e=>x g (by simp[e])),h.bS,h.di,h.dV,h.dT,h.bV,h.dk,h.dW,h.ok⟩
theorem ar.lt (h:ar w sb L s){k:Nat}(x:k=sb∨L.og.ownBlock=some k∨L.cu.ownBlock=some k∨L.tq.ownBlock=some k∨L.en.ownBlock=some k∨L.co.ownBlock=some k∨L.cv.ownBlock=some k∨L.st.ownBlock=some k):k<w.heap.size:=by
 rcases x with rfl|e|e|e|e|e|e|e
 ·exact h.aG.lt
 ·exact(Bg h.og e).2.1
 ·exact(Bg h.cu e).2.1
 ·exact(Bg h.tq e).2.1
 ·exact(Bg h.en e).2.1
 ·exact(Bg h.co e).2.1
 ·exact(Bg h.cv e).2.1
 ·exact(Bg h.st e).2.1
theorem ar.cW (h:ar w sb L s)(z:bJ w w'):ar w' sb L s:=h.aQ fun k y=>z.block k (h.lt y) (fun x=>x)
theorem ar.f_ (h:ar w sb L s){i:Nat}{u:Value}{s':Sr.St} (a:(Es L s).setIfInBounds i u=Es L s') (v:s'.m.aT=s.m.aT) (x:s'.m.aF=s.m.aF) (r:s'.m.aB=s.m.aB) (k:s'.m.aJ=s.m.aJ) (p:s'.m.bH=s.m.bH) (q:s'.m.aP=s.m.aP) (y:s'.m.store=s.m.store) (z:Sr.Ok s'):ar (w.setCell ⟨sb,i,none⟩ u) sb L s':=by
 refine⟨a ▸ h.aG.aX i u,?_,?_,?_,?_,?_,?_,?_,h.bS,h.di,h.dV,h.dT,h.bV,h.dk,h.dW,z⟩
 ·rw[v];exact Ck h.og h.aG (by decide) i u
 ·rw[x];exact Ck h.cu h.aG (by decide) i u
 ·rw[r];exact Ck h.tq h.aG (by decide) i u
 ·rw[k];exact Ck h.en h.aG (by decide) i u
 ·rw[p];exact Ck h.co h.aG (by decide) i u
 ·rw[q];exact Ck h.cv h.aG (by decide) i u
 ·rw[y];exact Ck h.st h.aG (by decide) i u
theorem ar.jM (h:ar w sb L s){i:Nat}(hi:i<64){v:Int}(z:bI v):ar (w.setCell ⟨sb,i,none⟩ (Aj v)) sb L { s with aW:=s.aW.set i v } :=
 h.f_ (Wz h.ok.rl hi v) rfl rfl rfl rfl rfl rfl rfl ⟨by simp[h.ok.rl],fun x y=>by rcases oI y with y|rfl;exact h.ok.rk x y;exact z,h.ok.m⟩
theorem ar.im (h:ar w sb L s){v:Int}(x:0≤v∧v≤1):ar (w.setCell ⟨sb,72,none⟩ (Aj v)) sb L { s with m := { s.m with look:=v } } :=
 h.f_ (Kn (L:=L) (L':=L) (s:=s) (s' := { s with m := { s.m with look:=v } }) h.ok.rl rfl 8 (Aj v) rfl) rfl rfl rfl rfl rfl rfl rfl ⟨h.ok.rl,h.ok.rk,{ h.ok.m with look:=x }⟩
theorem ar.ir (h:ar w sb L s){v:Int}(x:0≤v∧v≤1):ar (w.setCell ⟨sb,73,none⟩ (Aj v)) sb L { s with m := { s.m with move:=v } } :=
 h.f_ (Kn (L:=L) (L':=L) (s:=s) (s' := { s with m := { s.m with move:=v } }) h.ok.rl rfl 9 (Aj v) rfl) rfl rfl rfl rfl rfl rfl rfl ⟨h.ok.rl,h.ok.rk,{ h.ok.m with move:=x }⟩
theorem ar.iw (h:ar w sb L s){v:Int}(x:0≤v∧v≤5):ar (w.setCell ⟨sb,74,none⟩ (Aj v)) sb L { s with m := { s.m with bG:=v } } :=
 h.f_ (Kn (L:=L) (L':=L) (s:=s) (s' := { s with m := { s.m with bG:=v } }) h.ok.rl rfl 10 (Aj v) rfl) rfl rfl rfl rfl rfl rfl rfl ⟨h.ok.rl,h.ok.rk,{ h.ok.m with bG:=x }⟩
theorem ar.jq (h:ar w sb L s)(v:Nat):ar (w.setCell ⟨sb,75,none⟩ (Aj (v:Int))) sb L { s with pc:=v } :=
 h.f_ (Kn (L:=L) (L':=L) (s:=s) (s' := { s with pc:=v }) h.ok.rl rfl 11 (Aj (v:Int)) rfl) rfl rfl rfl rfl rfl rfl rfl ⟨h.ok.rl,h.ok.rk,h.ok.m⟩
theorem ar.fD (h:ar w sb L s)(v:Nat):ar (w.setCell ⟨sb,76,none⟩ (Aj (v:Int))) sb L { s with steps:=v } :=
 h.f_ (Kn (L:=L) (L':=L) (s:=s) (s' := { s with steps:=v }) h.ok.rl rfl 12 (Aj (v:Int)) rfl) rfl rfl rfl rfl rfl rfl rfl ⟨h.ok.rl,h.ok.rk,h.ok.m⟩
theorem Ee {aN size n g:Nat}{t:TypeId}{v:Value}{xs:List Value}(h:w.ownsRow aN t size v n xs)(x:v.ownBlock=some g){j:Nat}(b:j<xs.length)(u:Value):(w.setCell ⟨g,j,none⟩ u).ownsRow aN t size v n (xs.set j u):=by
 rcases h.2 with⟨rfl,_⟩|⟨y,cY,aF,rfl,k,s,r,z,a,q⟩
 ·simp[Value.ownBlock]at x
 ·simp only[Value.ownBlock,Bw]at x;subst x;have p:aH w y t aF:=s;refine⟨by rw[Dh];exact h.1,.inr ⟨y,cY,aF.setIfInBounds j u,rfl,k,p.aX j u,r,z,by rw[Dx];exact a,?_⟩⟩;rw[qr,List.take_set,q]
theorem Hg {aN z size size' n n' g:Nat}{t:TypeId}{v v':Value}{xs xs':List Value}(h:w.ownsRow aN t size v n xs)(_h':w.ownsRow z t size' v' n' xs')(p:au v v')(x:v'.ownBlock=some g)(j:Nat)(u:Value):(w.setCell ⟨g,j,none⟩ u).ownsRow aN t size v n xs :=
 Dd h fun k e=>Bq _ _ _ _ (fun y:k=g=>p k e (y ▸ x))
theorem Dp {aN q size size' n n' g:Nat}{t t':TypeId}{v v':Value}{xs xs':List Value}(h:w.ownsRow aN t size v n xs)(z:w.ownsRow q t' size' v' n' xs')(x:t≠t')(y:v'.ownBlock=some g)(j:Nat)(u:Value):(w.setCell ⟨g,j,none⟩ u).ownsRow aN t size v n xs :=
 Dd h fun k e=>Bq _ _ _ _ (fun p:k=g=>Ds h z x k e (p ▸ y))
theorem Kl {aN size n g:Nat}{t t':TypeId}{v:Value}{xs:List Value}{cs:Array Value}(x:aH w sb t' cs)(h:w.ownsRow aN t size v n xs)(z:t'≠t)(k:v.ownBlock=some g)(j:Nat)(u:Value):aH (w.setCell ⟨g,j,none⟩ u) sb t' cs:=by
 obtain⟨_,_,q,y⟩:=Bg h k;exact x.cZ (p:=⟨g,j,none⟩) (x.dF y z) u
theorem ar.ju (h:ar w sb L s){g:Nat}(x:L.cv.ownBlock=some g){i:Nat}(hi:i<s.m.aP.length){v:Int}(y:bI v):ar (w.setCell ⟨g,i,none⟩ (Aj v)) sb L { s with m := { s.m with aP:=s.m.aP.set i v } } := by
 refine⟨Kl h.aG h.cv (by decide) x _ _,Dp h.og h.cv (by decide) x _ _,Dp h.cu h.cv (by decide) x _ _,Hg h.tq h.cv h.dV x _ _,Hg h.en h.cv h.bV x _ _,Dp h.co h.cv (by decide) x _ _,?_,Hg h.st h.cv h.dW.symm x _ _,h.bS,h.di,h.dV,h.dT,h.bV,h.dk,h.dW,⟨h.ok.rl,h.ok.rk,{ h.ok.m with aP:=Ik h.ok.m.aP y,gy:=by simpa using h.ok.m.gy }⟩⟩;have:=Ee h.cv x (j:=i) (by rw[Dg];exact hi) (Aj v);rw[←Gj]at this
 simpa using this
theorem ar.setSt (h:ar w sb L s){g:Nat}(x:L.st.ownBlock=some g){i:Nat}(hi:i<s.m.store.length){v:Int}(y:bI v):ar (w.setCell ⟨g,i,none⟩ (Aj v)) sb L { s with m := { s.m with store:=s.m.store.set i v } } := by
 refine⟨Kl h.aG h.st (by decide) x _ _,Dp h.og h.st (by decide) x _ _,Dp h.cu h.st (by decide) x _ _,Hg h.tq h.st h.dT x _ _,Hg h.en h.st h.dk x _ _,Dp h.co h.st (by decide) x _ _,Hg h.cv h.st h.dW x _ _,?_,h.bS,h.di,h.dV,h.dT,h.bV,h.dk,h.dW,⟨h.ok.rl,h.ok.rk,{ h.ok.m with store:=Ik h.ok.m.store y,dQ:=by simpa using h.ok.m.dQ }⟩⟩;have:=Ee h.st x (j:=i) (by rw[Dg];exact hi) (Aj v);rw[←Gj]at this
 simpa using this
theorem ar.setTq (h:ar w sb L s){g:Nat}(x:L.tq.ownBlock=some g){i:Nat}(hi:i<s.m.aB.length){v:Int}(y:0≤v∧v≤3):ar (w.setCell ⟨g,i,none⟩ (Aj v)) sb L { s with m := { s.m with aB:=s.m.aB.set i v } } := by
 refine⟨Kl h.aG h.tq (by decide) x _ _,Dp h.og h.tq (by decide) x _ _,Dp h.cu h.tq (by decide) x _ _,?_,Hg h.en h.tq h.di.symm x _ _,Dp h.co h.tq (by decide) x _ _,Hg h.cv h.tq h.dV.symm x _ _,Hg h.st h.tq h.dT.symm x _ _,h.bS,h.di,h.dV,h.dT,h.bV,h.dk,h.dW,⟨h.ok.rl,h.ok.rk,{ h.ok.m with aB:=Ik h.ok.m.aB y,tl:=by simpa using h.ok.m.tl }⟩⟩;have:=Ee h.tq x (j:=i) (by rw[Dg];exact hi) (Aj v);rw[←Gj]at this
 simpa using this
theorem Zaq:∀{l:List (Int×Int)} {i:Nat} {x:Int×Int} (_:l[i]?=some x) (axis v:Int),(bu l).set (i*2+(if axis=1 then 1 else 0)) (Aj v)=bu (l.set i (if axis=1 then(x.1,v) else(v,x.2)))
 |a::l,0,x,h,axis,v=>by
  simp only[Ay,Bw]at h;subst h;split <;> simp[bu]
 |a::l,i+1,x,h,axis,v=>by
  have y:=Zaq (l:=l) (i:=i) (x:=x) h axis v;rw[show (i+1)*2+(if axis=1 then 1 else 0)=(i*2+(if axis=1 then 1 else 0))+1+1 by omega];have:(bu (a::l)).set (i*2+(if axis=1 then 1 else 0)+1+1) (Aj v)=Aj a.1::Aj a.2::(bu l).set (i*2+(if axis=1 then 1 else 0)) (Aj v):=rfl;rw[this,y];rfl
 | [],i,x,h,_,_=>by simp at h
theorem ar.jC (h:ar w sb L s){g:Nat}(y:L.cu.ownBlock=some g){i:Nat}{x:Int×Int} (r:s.m.aF[i]?=some x) (axis:Int) (v:Int) (u:bI v) (k:bI x.1∧bI x.2) :
  ar (w.setCell ⟨g,i*2+(if axis=1 then 1 else 0),none⟩ (Aj v)) sb L { s with m := { s.m with aF:=s.m.aF.set i (if axis=1 then(x.1,v) else(v,x.2)) } } := by
 have hi:=(aS.1 r).1;refine⟨Kl h.aG h.cu (by decide) y _ _,Hg h.og h.cu h.bS.symm y _ _,?_,Dp h.tq h.cu (by decide) y _ _,Dp h.en h.cu (by decide) y _ _,Dp h.co h.cu (by decide) y _ _,Dp h.cv h.cu (by decide) y _ _,Dp h.st h.cu (by decide) y _ _,h.bS,h.di,h.dV,h.dT,h.bV,h.dk,h.dW,⟨h.ok.rl,h.ok.rk,{ h.ok.m with aF:=fun p z=>?_,dK:=by simpa using h.ok.m.dK,tl:=by simpa using h.ok.m.tl,bH:=by simpa using h.ok.m.bH,c_:=by simpa using h.ok.m.c_ }⟩⟩
 ·have q:=Ee h.cu y (j:=i*2+(if axis=1 then 1 else 0)) (by rw[Ij];split <;> omega) (Aj v);have e:=Zaq r axis v;rw[e]at q
  simpa using q
 ·rcases oI z with z|rfl
  ·exact h.ok.m.aF p z
  ·split
   ·exact⟨k.1,u⟩
   ·exact⟨u,k.2⟩
end
def bB (w:World)(sb:Nat)(L:bN)(s:Sr.St)(e:Ending)(w':World):Prop:=e=.returned (.tuple #[])∧ar w' sb L s∧Fr (eY L sb) w w'
end
section
open Go.RowKit Mc
theorem Ed (n:Int)(w:World):Calls Tryz.prog 72 #[Aj n] w fun e w'=>e=.returned (Aj (bA n))∧w=w':=by
 go_enter Tryz.func72,Tryz.ntmps72;go_wp2;go_ret;exact⟨Co (Pr n),rfl⟩
theorem Jv (n d:Int)(w:World)(y:0<d)(z:d≤1000):Calls Tryz.prog 134 #[Aj n,Aj d] w fun e w'=>e=.returned (Aj (n % d))∧w=w':=by
 have x:=Aq (Ma n d y);have u:=pm n (show d≠0 by omega);have v:=po n y;go_enter Tryz.func134,Tryz.ntmps134;go_wp2
 all_goals go_ret
 ·have x:=x.o;rw[if_pos ‹_›]at x;exact⟨Co (by rw[x];exact pR _ (by omega)),rfl⟩
 ·have x:=x.o;rw[if_neg (by omega)]at x;exact⟨Co x.symm,rfl⟩
theorem Ih (a b:Int)(w:World):Calls Tryz.prog 111 #[Aj a,Aj b] w fun e w'=>e=.returned (Aj (Mc.iJ (Mc.eT a b)))∧w=w':=by
 by_cases z:b=0
 ·subst z;go_enter Tryz.func111,Tryz.ntmps111;go_wp2;go_ret;exact⟨Co rfl,rfl⟩
 ·have p:Mc.eT a b=a.fdiv b:=by unfold Mc.eT;rw[if_neg z]
  have u:=Aq (Rp a b z);have k:=Aq p;have c:(b==0)=false:=beq_eq_false_iff_ne.2 z;clear p;by_cases x:a.tmod b≠0∧(decide (a<0)≠decide (b<0))
  ·have q:(a.tmod b != 0)=true:=bne_iff_ne.2 x.1;have s:(decide (a<0)==decide (b<0))=false:=beq_eq_false_iff_ne.2 x.2;have y:=Aq x;obtain⟨d,_⟩:=x;go_enter Tryz.func111,Tryz.ntmps111;go_wp2;go_ret;refine⟨Co ?_,rfl⟩;rw[k.o,u.o,if_pos y.o];exact Zc _
  ·have y:=Aq x;clear x;by_cases v:a.tmod b=0
   ·have q:(a.tmod b != 0)=false:=by simp[v]
    go_enter Tryz.func111,Tryz.ntmps111;go_wp2;go_ret;refine⟨Co ?_,rfl⟩;rw[k.o,u.o,if_neg y.o];exact Gx _
   ·have q:(a.tmod b != 0)=true:=bne_iff_ne.2 v;have s:(decide (a<0)==decide (b<0))=true:=by
     rcases r:(decide (a<0)==decide (b<0)) with _|_
     ·exact absurd ⟨v,beq_eq_false_iff_ne.1 r⟩ y.o
     ·rfl
    go_enter Tryz.func111,Tryz.ntmps111;go_wp2;go_ret;refine⟨Co ?_,rfl⟩;rw[k.o,u.o,if_neg y.o];exact Gx _
theorem Gm (b:Bool)(w:World):Calls Tryz.prog 121 #[.bool b] w fun e w'=>e=.returned (Aj (Mc.bC b))∧w=w':=by
 cases b
 all_goals
  go_enter Tryz.func121,Tryz.ntmps121;go_wp2;go_ret;exact⟨rfl,rfl⟩
theorem Dy (b off:Nat)(a:Int)(w:World)(y:0≤a)(x:a≤1):Calls Tryz.prog 227 #[.pointer (some ⟨b,off,none⟩),Aj a] w fun e w'=>e=.returned (.pointer (some ⟨b,off+(if a=1 then 1 else 0),none⟩))∧w=w':=by
 have h:a=0∨a=1:=by omega
 rcases h with rfl|rfl
 all_goals
  go_enter Tryz.func227,Tryz.ntmps227;go_wp2;go_ret;exact⟨rfl,rfl⟩
theorem Zby (op:Int)(w:World):Calls Tryz.prog 49 #[Aj op] w fun e w'=>e=.returned (.bool (Sr.cP op))∧w=w':=by
 by_cases y:op=35
 ·subst y;go_enter Tryz.func49,Tryz.ntmps49;go_wp2;go_ret;exact⟨rfl,rfl⟩
 ·by_cases x:op=36
  ·subst x;go_enter Tryz.func49,Tryz.ntmps49;go_wp2;go_ret;exact⟨rfl,rfl⟩
  ·have z:(op==35)=false:=by simpa using y
   have u:(op==36)=false:=by simpa using x
   have e:Sr.cP op=(op==41):=by unfold Sr.cP;by_cases h:op=41 <;> simp[y,x,h]
   rw[e];clear e;go_enter Tryz.func49,Tryz.ntmps49;go_wp2;go_ret;exact⟨rfl,rfl⟩
theorem Iv (op:Int)(w:World) :
  Calls Tryz.prog 47 #[Aj op] w fun e w'=>e=.returned (.tuple #[Aj (Sr.cS op).1,.bool (Sr.cS op).2])∧w=w':=by
 go_enter Tryz.func47,Tryz.ntmps47;go_wp2
 all_goals (go_ret2;go_light;refine⟨?_,rfl⟩;simp_all [Sr.cS])
def Ff (r:Sr.bE):Value:=.agg #[Aj r.op,Aj r.d,Aj r.a,Aj r.b,Aj r.n]
def Ch:List Sr.bE→List Value
 | []=>[]
 |x::r=>Aj x.op::Aj x.d::Aj x.a::Aj x.b::Aj x.n::Ch r
theorem Kz (l:List Sr.bE):(Ch l).length=l.length*5:=by induction l with|nil=>rfl|cons c r ih=>simp[Ch,ih];omega
theorem Ga (l:List Sr.bE):∀(i:Nat) (c:Sr.bE),l[i]?=some c→(Ch l)[i*5]?=some (Aj c.op)∧(Ch l)[i*5+1]?=some (Aj c.d)∧(Ch l)[i*5+2]?=some (Aj c.a)∧(Ch l)[i*5+3]?=some (Aj c.b)∧(Ch l)[i*5+4]?=some (Aj c.n):=by
 induction l with
 |nil=>intro i c h;simp at h
 |cons d r ih =>
  intro i c h;cases i with
  |zero=>simp at h;subst h;simp[Ch]
  |succ i =>
   have:=ih i c (by simpa using h);rw[show (i+1)*5=i*5+5 by omega]
   simpa [Ch]using this
theorem Qx (a b:List Sr.bE):Ch (a++b)=Ch a++Ch b:=by
 induction a with
 |nil=>rfl
 |cons p r ih=>simp[Ch,ih]
def Zih (k:Nat)(d a b u:Int):Prop :=
 (1≤k→u % 2=0∨Sr.rg d=true)∧(2≤k→u / 2 % 2=0∨Sr.rg a=true)∧(3≤k→u / 4 % 2=0∨Sr.rg b=true)
theorem Zf (r:Sr.bE)(u:Int)(w:World)(j:0≤u)(m:u≤7) :
  Calls Tryz.prog 48 #[Ff r,Aj u] w fun e w'=>e=.returned (.bool (Sr.eV r u))∧Below w.heap.size w w':=by
 obtain⟨op,d,a,b,n⟩:=r;have h:u=0∨u=1∨u=2∨u=3∨u=4∨u=5∨u=6∨u=7:=by omega
 have Z:∀w:World,(Instr.index 170 (.agg #[Aj d,Aj a,Aj b]) (Aj 0)).run Tryz.prog w=.ok (Aj d) w:=fun _=>by kernel_rfl
 have U:∀w:World,(Instr.index 170 (.agg #[Aj d,Aj a,Aj b]) (Aj 1)).run Tryz.prog w=.ok (Aj a) w:=fun _=>by kernel_rfl
 have K:∀w:World,(Instr.index 170 (.agg #[Aj d,Aj a,Aj b]) (Aj 2)).run Tryz.prog w=.ok (Aj b) w:=fun _=>by kernel_rfl
 unfold Ff;have l:bits BinOp.and IntKind.i64 u 1=u % 2:=by rcases h with rfl|rfl|rfl|rfl|rfl|rfl|rfl|rfl <;> kernel_rfl
 have g:bits BinOp.and IntKind.i64 u 2=u / 2 % 2*2:=by rcases h with rfl|rfl|rfl|rfl|rfl|rfl|rfl|rfl <;> kernel_rfl
 have H:bits BinOp.and IntKind.i64 u 4=u / 4 % 2*4:=by rcases h with rfl|rfl|rfl|rfl|rfl|rfl|rfl|rfl <;> kernel_rfl
 generalize c:u=Y at *;rcases h with rfl|rfl|rfl|rfl|rfl|rfl|rfl|rfl
 all_goals
  have q:=Aq c;clear j m c;simp only[Int.reduceMod,Int.reduceDiv,Int.reduceMul]at l g H;go_enter Tryz.func48,Tryz.ntmps48;go_wp2_with fail
  go_loopw [14] (fun i wr=>∃k:Nat,k≤3∧i=Aj k∧wr=w.alloc (.cells #[Aj op,Aj d,Aj a,Aj b,Aj n] 50)∧Zih k d a b u) (fun i _=>3-(intOf i).toNat)
  case atStart=>exact⟨0,by omega,rfl,rfl,⟨fun h=>absurd h (by decide),fun h=>absurd h (by decide),fun h=>absurd h (by decide)⟩⟩
  case round =>
   obtain⟨k,X,rfl,rfl,f⟩:=hrel;have p:=Aq f;clear f;rcases(show k=0∨k=1∨k=2∨k=3 by omega) with rfl|rfl|rfl|rfl
   ·rcases(show (0≤d∧d<64)∨d<0∨64≤d by omega) with⟨x,s⟩|x|x
    all_goals
     go_wp2
     first
     |exact⟨⟨1,by omega,rfl,trivial,⟨fun _=>by rw[q.o];simp[Sr.rg] <;> omega,fun h=>absurd h (by decide),fun h=>absurd h (by decide)⟩⟩,by simp[intOf]⟩
     | (go_ret
        exact⟨Cw (by simp[Sr.eV,Sr.rg];omega),aI.alloc Aw _⟩)
   ·rcases(show (0≤a∧a<64)∨a<0∨64≤a by omega) with⟨x,s⟩|x|x
    all_goals
     go_wp2
     first
     |exact⟨⟨2,by omega,rfl,trivial,⟨fun _=>p.o.1 (by decide),fun _=>by rw[q.o];simp[Sr.rg] <;> omega,fun h=>absurd h (by decide)⟩⟩,by simp[intOf]⟩
     | (go_ret
        exact⟨Cw (by simp[Sr.eV,Sr.rg];omega),aI.alloc Aw _⟩)
   ·rcases(show (0≤b∧b<64)∨b<0∨64≤b by omega) with⟨x,s⟩|x|x
    all_goals
     go_wp2
     first
     |exact⟨⟨3,by omega,rfl,trivial,⟨fun _=>p.o.1 (by decide),fun _=>p.o.2.1 (by decide),fun _=>by rw[q.o];simp[Sr.rg] <;> omega⟩⟩,by simp[intOf]⟩
     | (go_ret
        exact⟨Cw (by simp[Sr.eV,Sr.rg];omega),aI.alloc Aw _⟩)
   ·go_wp2;go_ret;refine⟨Cw ?_,aI.alloc Aw _⟩;obtain⟨z,y,v⟩:=p.o;have z:=z (by decide);have y:=y (by decide);have v:=v (by decide);rw[q.o]at z y v;unfold Sr.eV;simp at z y v ⊢
    try simp[z,y,v]
theorem Sr.eE:∀{aA:List Sr.bE},(∀(i:Nat) r,aA[i]?=some r→Sr.dm r ((aA.length:Int)-1-i)=true)→Sr.fitsAll aA=true
 | [],_=>rfl
 |x::l,h=>by
  have y:=h 0 x rfl;rw[show (((x::l).length:Nat):Int)-1-(0:Nat)=l.length by rw[Bp];omega]at y;simp only[Sr.fitsAll,y,Bool.true_and];refine Sr.eE fun i r z=>?_
  have:=h (i+1) r (by simpa using z);rw[show (((x::l).length:Nat):Int)-1-((i+1:Nat):Int)=(l.length:Int)-1-i by rw[Bp];omega]at this;exact this
theorem Sr.kT {aA:List Sr.bE}{i:Nat}{r:Sr.bE} (h:aA[i]?=some r) (x:Sr.dm r ((aA.length:Int)-1-i)=false):Sr.right aA=false:=by
 have:Sr.fitsAll aA=false:=by
  cases y:Sr.fitsAll aA with
  |false=>rfl
  |true=>rw[Sr.eD y h]at x;cases x
 unfold Sr.right;rw[this];simp
theorem Sr.lY (op:Int):0≤(Sr.cS op).1∧(Sr.cS op).1≤7:=by
 unfold Sr.cS
 repeat' split
 all_goals exact⟨by decide,by decide⟩
theorem Gq (A:Option Addr)(c B:Nat)(aA:List Sr.bE)(w:World) (hR:aE w B 5 A aA.length (Ch aA)) (hB:B≤w.heap.size) (hn:aA.length≤1000000000000) :
  Calls Tryz.prog 21 #[.slice A aA.length c] w fun e w'=>e=.returned (.bool (Sr.right aA))∧Below w.heap.size w w':=by
 have HR:=Aq hR;clear hR;by_cases h0:aA.length<1
 ·have x:Sr.right aA=false:=by unfold Sr.right;rw[decide_eq_false (by omega)];rfl
  rw[x];clear x;generalize aA.length=n at *;go_enter Tryz.func21,Tryz.ntmps21;go_wp2;go_ret;exact⟨rfl,aI⟩
 by_cases h1:80000<aA.length
 ·have x:Sr.right aA=false:=by unfold Sr.right;rw[decide_eq_false (by omega)];rfl
  rw[x];clear x;generalize aA.length=n at *;go_enter Tryz.func21,Tryz.ntmps21;go_wp2;go_ret;exact⟨rfl,aI⟩
 go_enter Tryz.func21,Tryz.ntmps21;go_wp2_with fail
 go_loopw [19] (fun i wr=>∃k:Nat,k≤aA.length∧i=Aj k∧(∀(j:Nat) r,j<k→aA[j]?=some r→Sr.dm r ((aA.length:Int)-1-j)=true)∧Below w.heap.size w wr) (fun i _=>aA.length-(intOf i).toNat)
 case atStart=>exact⟨0,by omega,rfl,fun j r h=>absurd h (by omega),aI⟩
 case round =>
  obtain⟨k,hk,rfl,N,V⟩:=hrel;have E:=Aq N;clear N;have b':=V.size;have s:aE wr B 5 A aA.length (Ch aA):=HR.o.below V hB;by_cases d4:k<aA.length
  ·obtain⟨r,x⟩:∃r,aA[k]?=some r:=⟨_,Bf d4⟩;obtain⟨b,off,rfl,hm,z⟩:=s.2 (by omega);obtain⟨g0,T,O,g3,K⟩:=Ga aA k r x;have M:=z _ _ g0;have D:=z _ _ T;have S:=z _ _ O;have C:=z _ _ g3;have f:=z _ _ K;rw[←mt]at D S C f;have J:=Aq x;have HN:=Aq s;clear z g0 T O g3 K x s;obtain⟨op,d,a,y,n⟩:=r;simp only at M D S C f;go_wp2_with fail
   refine(Iv op _).mono ?_;rintro e w1⟨rfl,rfl⟩;obtain⟨u,ok,F⟩:∃u ok,Sr.cS op=(u,ok):=⟨_,_,rfl⟩;have G:=Sr.lY op;rw[F]at G ⊢;dsimp only at G;obtain⟨HT,h'⟩:=G;have L:=Aq F;clear F;have X:Hid (∀w2,Below w.heap.size w w2→Sr.dm ⟨op,d,a,y,n⟩ ((aA.length:Int)-1-k)=false→Ending.returned (Value.bool false)=.returned (.bool (Sr.right aA))∧Below w.heap.size w w2):=Aq fun w2 h2 hf=>⟨Cw (Sr.kT J.o hf).symm,h2⟩
   have I:Below w.heap.size w (wr.alloc (.cells #[Aj op,Aj d,Aj a,Aj y,Aj n] 50)):=V.alloc b' _;cases ok with
   |false =>
    go_wp2;go_ret;exact X.o _ I (by unfold Sr.dm;rw[L.o];rfl)
   |true =>
    by_cases q:(op=42∧k+1=aA.length)∨(op≠42∧k+1<aA.length)
    ·have p:Sr.dm ⟨op,d,a,y,n⟩ ((aA.length:Int)-1-k)=(Sr.eV ⟨op,d,a,y,n⟩ u && (!Sr.cP op || decide (0≤n∧n<(aA.length:Int)-1-k))):=by
      unfold Sr.dm;rw[L.o];rcases q with⟨h,H⟩|⟨h,H⟩
      ·subst h;rw[decide_eq_true (show (42:Int)=42 from rfl),decide_eq_true (show (aA.length:Int)-1-k=0 by omega)];simp
      ·rw[decide_eq_false h,decide_eq_false (show ¬ (aA.length:Int)-1-k=0 by omega)];simp
     have Q:=Aq p;clear p;have W:(op==42)=((aA.length:Int)-1-k==0):=by
      rcases q with⟨h,H⟩|⟨h,H⟩
      ·subst h;rw[show ((aA.length:Int)-1-k==0)=true from beq_iff_eq.2 (by omega)];rfl
      ·rw[show (op==42)=false from beq_eq_false_iff_ne.2 h,show ((aA.length:Int)-1-k==0)=false from beq_eq_false_iff_ne.2 (by omega)]
     clear q;go_wp2_with fail
     refine(Zf ⟨op,d,a,y,n⟩ u _ HT h').mono ?_;rintro e w2⟨rfl,R⟩;have l:Below w.heap.size w w2:=I.trans (R.mono (by simp;omega));have c0:w2.cell? ⟨wr.heap.size,0,none⟩=some (Aj op):=by rw[R.cell (by simp)];simp[go_sem]
     have c4:w2.cell? ⟨wr.heap.size,4,none⟩=some (Aj n):=by rw[R.cell (by simp)];simp[go_sem]
     cases U:Sr.eV ⟨op,d,a,y,n⟩ u with
     |false =>
      have Y:=Aq U;clear U;go_wp2;go_ret;exact X.o _ l (by rw[Q.o,Y.o];rfl)
     |true =>
      have Y:=Aq U;clear U R M D S C f;go_wp2_with fail
      refine(Zby op _).mono ?_;rintro e w3⟨rfl,rfl⟩;cases g:Sr.cP op with
      |false =>
       have v:=Aq (show Sr.dm ⟨op,d,a,y,n⟩ ((aA.length:Int)-1-k)=true by rw[Q.o,Y.o,g];rfl);clear g c0 c4;go_wp2;exact⟨⟨k+1,by omega,by go_num,fun j r hj x=>by
        rcases oe j k with h|h
        ·exact E.o j r h x
        ·obtain rfl:j=k:=by omega
         rw[J.o]at x
         injection x with x
         subst x;exact v.o,l⟩,by simp[intOf];omega⟩
      |true =>
       by_cases Z:0≤n∧n<(aA.length:Int)-1-k
       ·have v:=Aq (show Sr.dm ⟨op,d,a,y,n⟩ ((aA.length:Int)-1-k)=true by rw[Q.o,Y.o,g,decide_eq_true Z];rfl);clear g;obtain⟨HF,hN⟩:=Z;go_wp2;exact⟨⟨k+1,by omega,by go_num,fun j r hj x=>by
         rcases oe j k with h|h
         ·exact E.o j r h x
         ·obtain rfl:j=k:=by omega
          rw[J.o]at x
          injection x with x
          subst x;exact v.o,l⟩,by simp[intOf];omega⟩
       ·have v:=Aq (show Sr.dm ⟨op,d,a,y,n⟩ ((aA.length:Int)-1-k)=false by rw[Q.o,Y.o,g,decide_eq_false Z];rfl);clear g;by_cases HF:0≤n
        ·have hN:(aA.length:Int)-1-k≤n:=by omega
         clear Z;go_wp2;go_ret;exact X.o _ l v.o
        ·clear Z;go_wp2;go_ret;exact X.o _ l v.o
    ·have W:¬ (op==42)=((aA.length:Int)-1-k==0):=by
      intro h;by_cases P:op=42
      ·rw[P]at h;have:=beq_iff_eq.1 h.symm;exact q (.inl ⟨P,by omega⟩)
      ·rw[beq_eq_false_iff_ne.2 P]at h;have:=beq_eq_false_iff_ne.1 h.symm;exact q (.inr ⟨P,by omega⟩)
     have p:Sr.dm ⟨op,d,a,y,n⟩ ((aA.length:Int)-1-k)=false:=by
      unfold Sr.dm;rw[L.o];have:(decide (op=42)==decide ((aA.length:Int)-1-k=0))=false:=by
       refine beq_eq_false_iff_ne.2 fun h=>W ?_
       have H:(op=42)↔((aA.length:Int)-1-k=0):=by simpa using h
       rw[Bool.eq_iff_iff,beq_iff_eq,beq_iff_eq];exact H
      simp only[this,Bool.and_false,Bool.false_and]
     have v:=Aq p;clear q p;go_wp2;go_ret;exact X.o _ I v.o
  ·obtain rfl:k=aA.length:=by omega
   obtain⟨r,x⟩:∃r,aA[aA.length-1]?=some r:=⟨_,Bf (by omega)⟩;have p:Sr.fitsAll aA=true:=Sr.eE fun i r x=>E.o i r (aS.1 x).1 x
   have hr:Sr.right aA=decide (0≤r.n∧r.n≤64):=by
    unfold Sr.right;rw[p,qz,x,decide_eq_true (show 1≤aA.length∧aA.length≤80000 by omega)];simp
   have g4:=Aq hr;clear hr p;obtain⟨b,off,rfl,hm,z⟩:=s.2 (by omega);obtain⟨_,_,_,_,K⟩:=Ga aA _ r x;have f:=z _ _ K;rw[←mt]at f;have HN:=Aq s;clear z K x s;obtain⟨op,d,a,y,n⟩:=r;simp only at f;have q:(aA.length:Int)-1=((aA.length-1:Nat):Int):=by omega
   have ht:aA.length-1<aA.length:=by omega
   generalize aA.length-1=m at *;go_wp2
   all_goals
    go_ret;exact⟨Cw (by rw[g4.o];simp;omega),V⟩
section
variable {w w' : World} {sb : Nat} {L : bN} {s : Sr.St}
theorem ar.drew (h:ar w sb L s):ar w.drew sb L s:=h.aQ fun _ _=>rfl
theorem ar.alloc (h:ar w sb L s)(o:Obj):ar (w.alloc o) sb L s:=h.aQ fun k x=>pq _ _ _ (h.lt x)
theorem ar.rk (h:ar w sb L s){i:Nat}(hi:i<64):bI (s.aW.getD i 0):=by
 rw[Bo,Bf (by rw[h.ok.rl];exact hi)];exact h.ok.rk _ (qA _)
theorem bB.bQ {e:Ending}{w1 w2:World} (h:Fr (eY L sb) w w1) (k:bB w1 sb L s e w2):bB w sb L s e w2:=⟨k.1,k.2.1,h.trans k.2.2⟩
end
theorem Iw (w:World)(sb:Nat)(L:bN)(s:Sr.St)(h:ar w sb L s)(op n:Int)(d a:Nat)(b:Int)(k:d<64)(j:a<64)(z f:Nat) (y:aH w z 117 #[.func (.func f) #[] #[]]) (v:Int) (V:∀args w,Sem.run Tryz.prog (callFunc f args) w=.ok (.enter f args) w)
  (q:∀w,Calls Tryz.prog f #[Aj (s.aW.getD a 0)] w fun e w'=>e=.returned (Aj v)∧w=w') :
  Calls Tryz.prog 224 #[.pointer (some ⟨sb,0,none⟩),Ff ⟨op,d,a,b,n⟩,.pointer (some ⟨z,0,none⟩)] w (bB w sb L { s with aW:=s.aW.set d (bA v) }):=by
 unfold Ff;have H:=Aq h;have c:=Aq q;have U:=Aq y;have P:=h.aG.lt;have X:(a:Int)<64:=by omega
 have Z:(d:Int)<64:=by omega
 have Q:=y.lt;have g:=(h.alloc (.cells #[Aj op,Aj (d:Int),Aj (a:Int),Aj (b:Int),Aj n] 50)).fQ j;have c0:=(h.alloc (.cells #[Aj op,Aj (d:Int),Aj (a:Int),Aj (b:Int),Aj n] 50)).fQ k;have p:=(y.alloc (.cells #[Aj op,Aj (d:Int),Aj (a:Int),Aj (b:Int),Aj n] 50)).cell 0;simp only[Az,Ay]at p;clear h q y;go_enter Tryz.func224,Tryz.ntmps224;go_wp2_with fail
 have r:(w.alloc (.cells #[Aj op,Aj (d:Int),Aj (a:Int),Aj (b:Int),Aj n] 50)).cell? ⟨w.heap.size,1,none⟩=some (Aj (d:Int)):=(qG w _ _).cell 1;have i:(w.alloc (.cells #[Aj op,Aj (d:Int),Aj (a:Int),Aj (b:Int),Aj n] 50)).cell? ⟨w.heap.size,2,none⟩=some (Aj (a:Int)):=(qG w _ _).cell 2;have m:Hid (bB w sb L { s with aW:=s.aW.set d (bA v) } (.returned (.tuple #[])) ((w.alloc (.cells #[Aj op,Aj (d:Int),Aj (a:Int),Aj (b:Int),Aj n] 50)).drew.setCell ⟨sb,d,none⟩ (Aj (bA v)))):=Aq ⟨rfl,(H.o.alloc _).drew.jM k (Fq v),((qF _ w).alloc _).drew.setCell (.inl (.inl rfl)) _⟩;have Y:(w.alloc (.cells #[Aj op,Aj (d:Int),Aj (a:Int),Aj (b:Int),Aj n] 50)).drew.frozen? ⟨sb,d,none⟩=false:=(H.o.alloc _).drew.aG.frozen d;generalize (w.alloc (.cells #[Aj op,Aj (d:Int),Aj (a:Int),Aj (b:Int),Aj n] 50))=W at *;have u:W.drew.cell? ⟨w.heap.size,1,none⟩=some (Aj (d:Int))∧W.drew.cell? ⟨z,0,none⟩=some (.func (.func f) #[] #[])∧W.drew.cell? ⟨w.heap.size,2,none⟩=some (Aj (a:Int))∧W.drew.cell? ⟨sb,a,none⟩=some (Aj (s.aW.getD a 0)):=⟨r,p,i,g⟩;refine Bs (Cl [11,12,16]) (Bm [2,3,6,10]) (Bm [11,12]) [0,1,2,3,4,5,6,7,8,9,10,13,14,11,12,15,16] (fun wq:World=>wq.cell? ⟨w.heap.size,1,none⟩=some (Aj (d:Int))∧wq.cell? ⟨z,0,none⟩=some (.func (.func f) #[] #[])∧wq.cell? ⟨w.heap.size,2,none⟩=some (Aj (a:Int))∧wq.cell? ⟨sb,a,none⟩=some (Aj (s.aW.getD a 0))) (by kernel_rfl) (by kernel_rfl) (by kernel_rfl) (by kernel_rfl) ?_
 repeat (first|refine Be ?_|refine Bj u ?_)
 refine Bi fun K x=>?_;go_simp
 refine(c.o _).mono ?_;rintro e l⟨rfl,rfl⟩;dsimp only;refine x _ _ (fun _=>u) ?_;clear x K;refine Bi fun K x=>?_;go_simp
 refine(Ed _ _).mono ?_;rintro e l⟨rfl,rfl⟩;dsimp only;refine x _ _ (fun _=>u) ?_;clear x K
 repeat (first|refine Be ?_|refine Bj u ?_)
 refine Bi fun K x=>?_;go_simp
 refine Bh x ?_;clear x K;refine Bb ?_;go_wp2;go_end0;exact m.o
theorem Fi (w:World)(sb:Nat)(L:bN)(s:Sr.St)(h:ar w sb L s)(op n:Int)(d a b:Nat)(k:d<64)(X:a<64)(g:b<64)(z f:Nat) (y:aH w z 74 #[.func (.func f) #[] #[]]) (v:Int) (S:∀args w,Sem.run Tryz.prog (callFunc f args) w=.ok (.enter f args) w)
  (q:∀w,Calls Tryz.prog f #[Aj (s.aW.getD a 0),Aj (s.aW.getD b 0)] w fun e w'=>e=.returned (Aj v)∧w=w') :
  Calls Tryz.prog 225 #[.pointer (some ⟨sb,0,none⟩),Ff ⟨op,d,a,b,n⟩,.pointer (some ⟨z,0,none⟩)] w (bB w sb L { s with aW:=s.aW.set d (bA v) }):=by
 unfold Ff;have H:=Aq h;have i:=Aq q;have R:=Aq y;have A:=h.aG.lt;have U:(a:Int)<64:=by omega
 have Q:(b:Int)<64:=by omega
 have P:(d:Int)<64:=by omega
 have B:=y.lt;have j:=(h.alloc (.cells #[Aj op,Aj (d:Int),Aj (a:Int),Aj ((b:Nat):Int),Aj n] 50)).fQ X;have l:=(h.alloc (.cells #[Aj op,Aj (d:Int),Aj (a:Int),Aj ((b:Nat):Int),Aj n] 50)).fQ g;have c0:=(h.alloc (.cells #[Aj op,Aj (d:Int),Aj (a:Int),Aj ((b:Nat):Int),Aj n] 50)).fQ k;have p:=(y.alloc (.cells #[Aj op,Aj (d:Int),Aj (a:Int),Aj ((b:Nat):Int),Aj n] 50)).cell 0;simp only[Az,Ay]at p;clear h q y;go_enter Tryz.func225,Tryz.ntmps225;go_wp2_with fail
 have c:(w.alloc (.cells #[Aj op,Aj (d:Int),Aj (a:Int),Aj ((b:Nat):Int),Aj n] 50)).cell? ⟨w.heap.size,1,none⟩=some (Aj (d:Int)):=(qG w _ _).cell 1;have m:(w.alloc (.cells #[Aj op,Aj (d:Int),Aj (a:Int),Aj ((b:Nat):Int),Aj n] 50)).cell? ⟨w.heap.size,2,none⟩=some (Aj (a:Int)):=(qG w _ _).cell 2;have r:(w.alloc (.cells #[Aj op,Aj (d:Int),Aj (a:Int),Aj ((b:Nat):Int),Aj n] 50)).cell? ⟨w.heap.size,3,none⟩=some (Aj (b:Int)):=(qG w _ _).cell 3;have Z:Hid (bB w sb L { s with aW:=s.aW.set d (bA v) } (.returned (.tuple #[])) ((w.alloc (.cells #[Aj op,Aj (d:Int),Aj (a:Int),Aj ((b:Nat):Int),Aj n] 50)).drew.setCell ⟨sb,d,none⟩ (Aj (bA v)))):=Aq ⟨rfl,(H.o.alloc _).drew.jM k (Fq v),((qF _ w).alloc _).drew.setCell (.inl (.inl rfl)) _⟩;have V:(w.alloc (.cells #[Aj op,Aj (d:Int),Aj (a:Int),Aj ((b:Nat):Int),Aj n] 50)).drew.frozen? ⟨sb,d,none⟩=false:=(H.o.alloc _).drew.aG.frozen d;generalize (w.alloc (.cells #[Aj op,Aj (d:Int),Aj (a:Int),Aj ((b:Nat):Int),Aj n] 50))=W at *;have u:W.drew.cell? ⟨w.heap.size,1,none⟩=some (Aj (d:Int))∧W.drew.cell? ⟨z,0,none⟩=some (.func (.func f) #[] #[])∧W.drew.cell? ⟨w.heap.size,2,none⟩=some (Aj (a:Int))∧W.drew.cell? ⟨sb,a,none⟩=some (Aj (s.aW.getD a 0))∧W.drew.cell? ⟨w.heap.size,3,none⟩=some (Aj (b:Int))∧W.drew.cell? ⟨sb,b,none⟩=some (Aj (s.aW.getD b 0)):=⟨c,p,m,j,r,l⟩
 refine Bs (Cl [18,19,23]) (Bm [2,3,6,10,13,17]) (Bm [18,19]) [0,1,2,3,4,5,6,7,8,9,10,11,12,13,14,15,16,17,20,21,18,19,22,23] (fun wq:World=>wq.cell? ⟨w.heap.size,1,none⟩=some (Aj (d:Int))∧wq.cell? ⟨z,0,none⟩=some (.func (.func f) #[] #[])∧wq.cell? ⟨w.heap.size,2,none⟩=some (Aj (a:Int))∧wq.cell? ⟨sb,a,none⟩=some (Aj (s.aW.getD a 0))∧wq.cell? ⟨w.heap.size,3,none⟩=some (Aj (b:Int))∧wq.cell? ⟨sb,b,none⟩=some (Aj (s.aW.getD b 0))) (by kernel_rfl) (by kernel_rfl) (by kernel_rfl) (by kernel_rfl) ?_
 repeat (first|refine Be ?_|refine Bj u ?_)
 refine Bi fun K x=>?_;go_simp
 refine(i.o _).mono ?_;rintro e Y⟨rfl,rfl⟩;dsimp only;refine x _ _ (fun _=>u) ?_;clear x K;refine Bi fun K x=>?_;go_simp
 refine(Ed _ _).mono ?_;rintro e Y⟨rfl,rfl⟩;dsimp only;refine x _ _ (fun _=>u) ?_;clear x K
 repeat (first|refine Be ?_|refine Bj u ?_)
 refine Bi fun K x=>?_;go_simp
 refine Bh x ?_;clear x K;refine Bb ?_;go_wp2;go_end0;exact Z.o
theorem ar.box {w W:World}{sb:Nat}{L:bN}{s:Sr.St}{op d a b n:Int}(h:ar w sb L s) (y:w.alloc (.cells #[Aj op,Aj d,Aj a,Aj b,Aj n] 50)=W) :
  W.cell? ⟨w.heap.size,0,none⟩=some (Aj op)∧W.cell? ⟨w.heap.size,1,none⟩=some (Aj d)∧W.cell? ⟨w.heap.size,2,none⟩=some (Aj a)∧W.cell? ⟨w.heap.size,3,none⟩=some (Aj b)∧W.cell? ⟨w.heap.size,4,none⟩=some (Aj n)∧Hid (ar W sb L s)∧Hid (Fr (eY L sb) w W)∧w.heap.size<W.heap.size:=by
 subst y;have x:=qG w 50 #[Aj op,Aj d,Aj a,Aj b,Aj n];exact⟨x.cell 0,x.cell 1,x.cell 2,x.cell 3,x.cell 4,Aq (h.alloc _),Aq ((qF _ w).alloc _),by simp⟩
end
section
open Go.RowKit Mc
section
variable {w w' w1 : World} {sb : Nat} {L : bN} {s : Sr.St}
theorem ar.jS (h:ar w sb L s){i:Nat}(hi:i<64):∃x,s.aW.getD i 0=x∧w.cell? ⟨sb,i,none⟩=some (Aj x)∧bI x:=⟨_,rfl,h.fQ hi,h.rk hi⟩
theorem bB.put (h:ar w1 sb L s) (z:Fr (eY L sb) w w1) {d:Nat} (y:d<64) {x:Int} (u:bI x):bB w sb L { s with aW:=s.aW.set d x } (.returned (.tuple #[])) (w1.setCell ⟨sb,d,none⟩ (Aj x)) :=
 ⟨rfl,h.jM y u,z.setCell (.inl (.inl rfl)) _⟩
theorem bB.dE (h:ar w1 sb L s) (x:Fr (eY L sb) w w1):bB w sb L s (.returned (.tuple #[])) w1:=⟨rfl,h,x⟩
end
theorem at_k {l:List Int}{x:Int}(y:∀x∈l,bI x):bI (aL l x):=by
 unfold aL;split
 ·rw[Bo,Bf (by omega)];exact y _ (qA _)
 ·exact⟨by decide,by decide⟩
theorem Ql (w:World)(sb:Nat)(L:bN)(s:Sr.St)(h:ar w sb L s)(op n b:Int)(d a:Nat)(Y:d<64)(U:a<64)(v:Value)(l:List Int)(hl:l.length≤1000000) (Q:w.ownsRow 0 3 1 v l.length (ae l)) (B:∀x∈l,bI x) :
  Calls Tryz.prog 128 #[.pointer (some ⟨sb,0,none⟩),v,Ff ⟨op,d,a,b,n⟩] w (bB w sb L { s with aW:=s.aW.set d (aL l (s.aW.getD a 0)) }):=by
 unfold Ff;have H:=Aq h;have T:(a:Int)<64:=by omega
 have hS:(d:Int)<64:=by omega
 have c1:=h.aG.lt;obtain⟨x,r,u,r1⟩:=h.jS U;have R:=Aq r;rw[r];obtain⟨A,c,rfl,I,J⟩:=Bc Q;have N:=Aq (at_k (x:=x) B);have O:=Aq Q;have V:=Aq (show ∀(y:Int),y=aL l x→∀W,ar W sb L s→Fr (eY L sb) w W→bB w sb L { s with aW:=s.aW.set d (aL l x) } (.returned (.tuple #[])) (W.setCell ⟨sb,d,none⟩ (Aj y)) from fun y X W C E=>by
  subst X;exact .put C E Y N.o)
 clear h r Q B I J u;by_cases r:0≤x∧x<l.length
 ·obtain⟨i,rfl⟩:∃i:Nat,x=i:=⟨x.toNat,by omega⟩;have M:i<l.length:=by omega
  obtain⟨y,X⟩:∃y,l[i]?=some y:=⟨_,Bf M⟩;have e:=Aq (Zhr X);obtain⟨g,c',P,_,_,G,D⟩:=Cf O.o (by omega);have Z:=D i _ (Cn X)
  injection P with P
  subst P;clear D r X;go_enter Tryz.func128,Tryz.ntmps128;go_wp2_with fail
  have k:(w.alloc (.cells #[Aj op,Aj (d:Int),Aj (a:Int),Aj (b:Int),Aj n] 50)).cell? ⟨w.heap.size,1,none⟩=some (Aj (d:Int)):=(qG w _ _).cell 1;have q:(w.alloc (.cells #[Aj op,Aj (d:Int),Aj (a:Int),Aj (b:Int),Aj n] 50)).cell? ⟨w.heap.size,2,none⟩=some (Aj (a:Int)):=(qG w _ _).cell 2;have f:(w.alloc (.cells #[Aj op,Aj (d:Int),Aj (a:Int),Aj (b:Int),Aj n] 50)).cell? ⟨w.heap.size,3,none⟩=some (Aj (b:Int)):=(qG w _ _).cell 3;have H1:=Aq (H.o.alloc (.cells #[Aj op,Aj (d:Int),Aj (a:Int),Aj (b:Int),Aj n] 50));have p:=Aq ((qF (eY L sb) w).alloc (.cells #[Aj op,Aj (d:Int),Aj (a:Int),Aj (b:Int),Aj n] 50));have m:w.heap.size<(w.alloc (.cells #[Aj op,Aj (d:Int),Aj (a:Int),Aj (b:Int),Aj n] 50)).heap.size:=by simp
  have Z:(w.alloc (.cells #[Aj op,Aj (d:Int),Aj (a:Int),Aj (b:Int),Aj n] 50)).cell? ⟨g,i,none⟩=some (Aj y):=by simpa [go_sem,G]using Z
  generalize (w.alloc (.cells #[Aj op,Aj (d:Int),Aj (a:Int),Aj (b:Int),Aj n] 50))=W at *;have u:=H1.o.fQ U;rw[R.o]at u;have z:W.drew.cell? ⟨w.heap.size,2,none⟩=some (Aj (a:Int))∧W.drew.cell? ⟨sb,a,none⟩=some (Aj (i:Int)):=⟨q,u⟩;refine Cv [] [2,6] [] 9 (fun wq:World=>wq.cell? ⟨w.heap.size,2,none⟩=some (Aj (a:Int))∧wq.cell? ⟨sb,a,none⟩=some (Aj (i:Int))) ?_
  repeat (first|refine Be ?_|refine Bj z ?_)
  refine Bb ?_;clear u;have H1:=Aq H1.o.drew;have p:=Aq p.o.drew
  replace k:W.drew.cell? ⟨w.heap.size,1,none⟩=some (Aj (d:Int)):=k
  replace q:W.drew.cell? ⟨w.heap.size,2,none⟩=some (Aj (a:Int)):=q
  replace f:W.drew.cell? ⟨w.heap.size,3,none⟩=some (Aj (b:Int)):=f
  replace m:w.heap.size<W.drew.heap.size:=m
  replace Z:W.drew.cell? ⟨g,i,none⟩=some (Aj y):=Z
  clear z;generalize W.drew=W at *;go_wp2_with fail
  have S:=H1.o.drew.aG.frozen d;have c0:=H1.o.drew.fQ Y;have z:W.drew.cell? ⟨w.heap.size,1,none⟩=some (Aj (d:Int)):=k;refine Cv [7] [2] [] 8 (fun wq:World=>wq.cell? ⟨w.heap.size,1,none⟩=some (Aj (d:Int))) ?_
  repeat (first|refine Be ?_|refine Bj z ?_)
  refine Bi fun K j=>?_;go_simp
  refine Bh j ?_;clear j K;refine Bb ?_;go_wp2;go_end0;exact V.o _ e.o.symm _ H1.o.drew p.o.drew
 ·have e:=Aq (mC r);by_cases F:0≤x
  ·have C:¬ x<l.length:=fun e=>r ⟨F,e⟩
   clear r;go_enter Tryz.func128,Tryz.ntmps128;go_wp2_with fail
   have k:(w.alloc (.cells #[Aj op,Aj (d:Int),Aj (a:Int),Aj (b:Int),Aj n] 50)).cell? ⟨w.heap.size,1,none⟩=some (Aj (d:Int)):=(qG w _ _).cell 1;have q:(w.alloc (.cells #[Aj op,Aj (d:Int),Aj (a:Int),Aj (b:Int),Aj n] 50)).cell? ⟨w.heap.size,2,none⟩=some (Aj (a:Int)):=(qG w _ _).cell 2;have f:(w.alloc (.cells #[Aj op,Aj (d:Int),Aj (a:Int),Aj (b:Int),Aj n] 50)).cell? ⟨w.heap.size,3,none⟩=some (Aj (b:Int)):=(qG w _ _).cell 3;have H1:=Aq (H.o.alloc (.cells #[Aj op,Aj (d:Int),Aj (a:Int),Aj (b:Int),Aj n] 50));have p:=Aq ((qF (eY L sb) w).alloc (.cells #[Aj op,Aj (d:Int),Aj (a:Int),Aj (b:Int),Aj n] 50));have m:w.heap.size<(w.alloc (.cells #[Aj op,Aj (d:Int),Aj (a:Int),Aj (b:Int),Aj n] 50)).heap.size:=by simp
   skip
   generalize (w.alloc (.cells #[Aj op,Aj (d:Int),Aj (a:Int),Aj (b:Int),Aj n] 50))=W at *;have u:=H1.o.fQ U;rw[R.o]at u;have z:W.drew.cell? ⟨w.heap.size,2,none⟩=some (Aj (a:Int))∧W.drew.cell? ⟨sb,a,none⟩=some (Aj x):=⟨q,u⟩;refine Cv [] [2,6] [] 9 (fun wq:World=>wq.cell? ⟨w.heap.size,2,none⟩=some (Aj (a:Int))∧wq.cell? ⟨sb,a,none⟩=some (Aj x)) ?_
   repeat (first|refine Be ?_|refine Bj z ?_)
   refine Bb ?_;clear u;have H1:=Aq H1.o.drew;have p:=Aq p.o.drew
   replace k:W.drew.cell? ⟨w.heap.size,1,none⟩=some (Aj (d:Int)):=k
   replace q:W.drew.cell? ⟨w.heap.size,2,none⟩=some (Aj (a:Int)):=q
   replace f:W.drew.cell? ⟨w.heap.size,3,none⟩=some (Aj (b:Int)):=f
   replace m:w.heap.size<W.drew.heap.size:=m
   skip
   clear z;generalize W.drew=W at *;go_wp2_with fail
   have S:=H1.o.drew.aG.frozen d;have c0:=H1.o.drew.fQ Y;have z:W.drew.cell? ⟨w.heap.size,1,none⟩=some (Aj (d:Int)):=k;refine Cv [7] [2] [] 8 (fun wq:World=>wq.cell? ⟨w.heap.size,1,none⟩=some (Aj (d:Int))) ?_
   repeat (first|refine Be ?_|refine Bj z ?_)
   refine Bi fun K j=>?_;go_simp
   refine Bh j ?_;clear j K;refine Bb ?_;go_wp2;go_end0;exact V.o _ e.o.symm _ H1.o.drew p.o.drew
  ·clear r;go_enter Tryz.func128,Tryz.ntmps128;go_wp2_with fail
   have k:(w.alloc (.cells #[Aj op,Aj (d:Int),Aj (a:Int),Aj (b:Int),Aj n] 50)).cell? ⟨w.heap.size,1,none⟩=some (Aj (d:Int)):=(qG w _ _).cell 1;have q:(w.alloc (.cells #[Aj op,Aj (d:Int),Aj (a:Int),Aj (b:Int),Aj n] 50)).cell? ⟨w.heap.size,2,none⟩=some (Aj (a:Int)):=(qG w _ _).cell 2;have f:(w.alloc (.cells #[Aj op,Aj (d:Int),Aj (a:Int),Aj (b:Int),Aj n] 50)).cell? ⟨w.heap.size,3,none⟩=some (Aj (b:Int)):=(qG w _ _).cell 3;have H1:=Aq (H.o.alloc (.cells #[Aj op,Aj (d:Int),Aj (a:Int),Aj (b:Int),Aj n] 50));have p:=Aq ((qF (eY L sb) w).alloc (.cells #[Aj op,Aj (d:Int),Aj (a:Int),Aj (b:Int),Aj n] 50));have m:w.heap.size<(w.alloc (.cells #[Aj op,Aj (d:Int),Aj (a:Int),Aj (b:Int),Aj n] 50)).heap.size:=by simp
   skip
   generalize (w.alloc (.cells #[Aj op,Aj (d:Int),Aj (a:Int),Aj (b:Int),Aj n] 50))=W at *;have u:=H1.o.fQ U;rw[R.o]at u;have z:W.drew.cell? ⟨w.heap.size,2,none⟩=some (Aj (a:Int))∧W.drew.cell? ⟨sb,a,none⟩=some (Aj x):=⟨q,u⟩;refine Cv [] [2,6] [] 9 (fun wq:World=>wq.cell? ⟨w.heap.size,2,none⟩=some (Aj (a:Int))∧wq.cell? ⟨sb,a,none⟩=some (Aj x)) ?_
   repeat (first|refine Be ?_|refine Bj z ?_)
   refine Bb ?_;clear u;have H1:=Aq H1.o.drew;have p:=Aq p.o.drew
   replace k:W.drew.cell? ⟨w.heap.size,1,none⟩=some (Aj (d:Int)):=k
   replace q:W.drew.cell? ⟨w.heap.size,2,none⟩=some (Aj (a:Int)):=q
   replace f:W.drew.cell? ⟨w.heap.size,3,none⟩=some (Aj (b:Int)):=f
   replace m:w.heap.size<W.drew.heap.size:=m
   skip
   clear z;generalize W.drew=W at *;go_wp2_with fail
   have S:=H1.o.drew.aG.frozen d;have c0:=H1.o.drew.fQ Y;have z:W.drew.cell? ⟨w.heap.size,1,none⟩=some (Aj (d:Int)):=k;refine Cv [7] [2] [] 8 (fun wq:World=>wq.cell? ⟨w.heap.size,1,none⟩=some (Aj (d:Int))) ?_
   repeat (first|refine Be ?_|refine Bj z ?_)
   refine Bi fun K j=>?_;go_simp
   refine Bh j ?_;clear j K;refine Bb ?_;go_wp2;go_end0;exact V.o _ e.o.symm _ H1.o.drew p.o.drew
end
end Go.Proofs.YtnhebmgibiomnaaGreat
