import Derived.Test.YtnhebmgibiomnaaGreatPi14
set_option linter.unusedVariables false
set_option linter.unusedSimpArgs false
set_option maxRecDepth 100000
set_option maxHeartbeats 8000000
namespace Go.Proofs.YtnhebmgibiomnaaGreat
section
open Go.RowKit Mc
def Wn (k:Nat)(p:Bu.aq):Prop:=∀s∈p.steps,((s.op=37∨s.op=38)→0≤s.a∧s.a<k)∧-64≤s.aC∧s.aC≤64∧s.go≤p.steps.length
theorem fN.cZ {w:World}{B bb:Nat}{pv cv:Value}{ps:List Bu.aq}{aA:List Sr.bE}(h:fN w B bb pv cv ps aA){g:Nat}{t:TypeId}{cs:Array Value}(y:aH w g t cs) (z:t ∉ [86,50,89,145]) (i:Nat) (u:Value):fN (w.setCell ⟨g,i,none⟩ u) B bb pv cv ps aA:=by
 simp only[If,not_or,eq,not_false_eq_true,and_true]at z;obtain⟨a,v,k,q⟩:=z;refine⟨h.aG.cZ (p:=⟨g,i,none⟩) (h.aG.dF y (fun e=>a e.symm)) u,?_,Ck h.aA y v i u,h.aN,h.f_⟩;obtain⟨A,c,e,d⟩:=h.ps;refine⟨A,c,e,(d.aQ fun s t' xs' r _ x b=>Hm y i u s t' xs' r (fun e=>?_) b).aY (by simp[World.setCell])⟩;subst e;rcases x with x|x
 ·omega
 ·simp only[Ll,kQ,Repr.map,Repr.bi,Repr.row,Repr.int,oO,If,eq,or_false]at x;rcases x with x|x
  ·exact k x
  ·exact q x
theorem eG.kZ {B:Nat}{w W:World}(h:eG B w W){g:Nat}(q:w.heap.size≤g)(v:B≤w.heap.size)(i:Nat)(u:Value):eG B w (W.setCell ⟨g,i,none⟩ u) :=
 ⟨h.below.setCell (p:=⟨g,i,none⟩) (by show B≤g;omega) u,fun k t cs x e z y=>by
  rw[Bq _ _ _ _ (by have:=(bO.1 e).1;show k≠g;omega)];exact h.aQ k t cs x e z y⟩
namespace Bu
def jp (ls:List (List Sr.bE)) (n0 n i:Nat):List Int:=(List.range (n+1)).map fun k=>if k<i then((n0+aZ ls k:Nat):Int) else 0
theorem gh (ls:List (List Sr.bE)) (n0 n i:Nat):(jp ls n0 n i).length=n+1:=by unfold jp;simp
theorem kW (ls:List (List Sr.bE)) (n0 n:Nat):jp ls n0 n 0=List.replicate (n+1) 0:=by
 unfold jp;refine List.ext_getElem (by simp) fun k y x=>?_
 simp
theorem jy (ls:List (List Sr.bE)) (n0 n i:Nat) (h:i<n+1):(jp ls n0 n i).set i ((n0+aZ ls i:Nat):Int)=jp ls n0 n (i+1):=by
 unfold jp;refine List.ext_getElem (by simp) fun k z y=>?_
 rw[List.getElem_set];simp only[List.getElem_map,List.getElem_range];by_cases x:i=k
 ·subst x;simp
 ·rw[if_neg x];have:(k<i)=(k<i+1):=propext (by omega);simp only[this]
theorem nr (ls:List (List Sr.bE)) (n0 n i k:Nat) (h:k<i) (hi:i≤n+1):(jp ls n0 n i)[k]?=some ((n0+aZ ls k:Nat):Int):=by
 unfold jp;rw[Cd,oa (by omega)];simp[h]
theorem kR (ls:List (List Sr.bE)) (st:List PS) (h:ls.length=st.length) (aA:List Sr.bE) (m q:Nat) (x:(az st st.length)[m]?=some q) (r r':Sr.bE) (c:ls[q]?=some [r]) (a:fixed ls st q=[r']) :
  (aA++(fl ls st fun k=>((az st st.length).take m).contains k).flatten)[aA.length+aZ ls q]?=some r ∧
  (aA++(fl ls st fun k=>((az st st.length).take m).contains k).flatten).set (aA.length+aZ ls q) r'=aA++(fl ls st fun k=>((az st st.length).take (m+1)).contains k).flatten:=by
 have v:q<st.length:=((gK st).1 (Bz x)).1;have b:((az st st.length).take m).contains q=false:=by
  rw[Bool.eq_false_iff];intro u;rw[List.contains_iff_mem]at u;obtain⟨i,hi,e⟩:=List.mem_iff_getElem.1 u;rw[List.getElem_take]at e;rw[Du]at hi;obtain⟨d,s⟩:=aS.1 x;have:=(List.getElem_inj (Tt st st.length)).1 (e.trans s.symm);omega
 have p:(fl ls st fun k=>((az st st.length).take m).contains k)[q]?=some (r::[]):=by
  unfold fl;rw[Cd,oa v];simp only[oH,b,pN,if_false,Bo,c,oK]
 obtain⟨z,y⟩:=Ub _ _ _ _ p;rw[Zgo ls st h]at z y;refine⟨?_,?_⟩
 ·rw[Dv (by omega)]
  simpa using z
 ·rw[oS _ _ (by omega),pw,y r',←a,mr ls st _ q v]
  congr 2
  refine congrArg (fl ls st) (funext fun k=>?_);rw[oC,x];simp[List.contains_eq_mem,Bool.beq_eq_decide_eq]
end Bu
def EmI (w:World)(B bb:Nat)(pv:Value)(ps:List Bu.aq)(aA:List Sr.bE) (ls:List (List Sr.bE)) (st:List Bu.PS) (A:Option Addr) (c:Nat) (z:Int) (x:Nat) (v i:Value) (wr:World):Prop :=
 ∃(j:Nat) (cv:Value),j≤st.length∧i=Aj (j:Int)∧wr.ownsRow w.heap.size 3 1 (.slice (some ⟨x,0,none⟩) (st.length+1) (st.length+1)) (st.length+1) (ae (Bu.jp ls aA.length st.length j)) ∧
  wr.ownsRow w.heap.size 150 2 v (Bu.cH ls st aA.length j).length (it (Bu.cH ls st aA.length j))∧fN wr B bb pv cv ps (aA++(ls.take j).flatten)∧eG B w wr∧aH wr w.heap.size 89 #[.slice A st.length c,Aj z]
def EmJ (w:World)(B bb:Nat)(pv:Value)(ps:List Bu.aq)(aA:List Sr.bE) (ls:List (List Sr.bE)) (st:List Bu.PS) (x:Nat) (v i:Value) (wr:World):Prop :=
 ∃(m:Nat) (cv:Value),m≤(Bu.cH ls st aA.length st.length).length∧i=Aj (m:Int)∧wr.ownsRow w.heap.size 3 1 (.slice (some ⟨x,0,none⟩) (st.length+1) (st.length+1)) (st.length+1) (ae (Bu.jp ls aA.length st.length (st.length+1))) ∧
  wr.ownsRow w.heap.size 150 2 v (Bu.cH ls st aA.length st.length).length (it (Bu.cH ls st aA.length st.length))∧fN wr B bb pv cv ps (aA++(Bu.fl ls st fun k=>((Bu.az st st.length).take m).contains k).flatten)∧eG B w wr
theorem Zgj:(Tryz.prog.info? 150).map (fun i=>(i.zero,i.size,i.bytes))=some (some (.agg #[Aj 0,Aj 0]),2,16):=by kernel_rfl
theorem Sa (es:List Bu.cU)(ps:List Bu.aq)(k:Nat)(hk:k≤ps.length)(hE:∀j,j<k→Wp es ps j)(p:Bu.aq)(hp:Wn k p)(w:World)(B bb:Nat)(pv cv:Value)(aA:List Sr.bE)(A:Option Addr)(c:Nat)(aC loops:Int)(h:fN w B bb pv cv ps aA)(hB:B≤w.heap.size) (v3:af (kQ 0) 145 w w.heap.size A p.steps) (hn:p.steps.length<1000000) (e4:EmB k aC loops) (c8:aA.length+(Bu.cG es p aC loops).length≤1000000) :
  Calls Tryz.prog 35 #[.pointer (some ⟨bb,0,none⟩),.agg #[.slice A p.steps.length c,Aj p.size],Aj aC,Aj loops] w (cI w B bb pv ps (aA++Bu.cG es p aC loops)):=by
 have y6:=Bu.eB es p aC loops;rw[Bu.iY]at c8;have b3:∀(i:Nat) s,p.steps[i]?=some s→(Bu.bZ es p aC loops)[i]?=some (Bu.bD es (s.op,s.a) (aC+s.aC) loops):=fun i s f=>by
  unfold Bu.bZ;rw[Cd,f];rfl
 have b0:=fun (i:Nat) (s:Bu.PS) (h1:p.steps[i]?=some s) (h2:Bu.cR s.op=true)=>Bu.jT (es:=es) (aC:=aC) (loops:=loops) h1 h2
 have v8:(Bu.fl (Bu.bZ es p aC loops) p.steps fun k=>(Bu.az p.steps p.steps.length).contains k).flatten=Bu.cG es p aC loops:=Bu.jo _ _ y6;generalize x5:Bu.bZ es p aC loops=ls at *;generalize Bu.cG es p aC loops=T at *;have e5:=Aq v8;have e7:=Aq b3;have c5:=Aq b0;have x3:=Aq y6;have c4:=Aq v3;have b7:=Aq (fun (W:World) (e2:Value) (fU:List Sr.bE) hW g1 (op x next:Int) (hc:(op=37∨op=38)→0≤x∧x<k) f hl=>Zdn W B bb pv e2 ps fU hW g1 es op x next loops k hk hE (fun j hj=>Zdo es ps j (hE j hj)) hc f hl);have a1:=Aq hp;have HA:=Aq (h.alloc (.cells #[.slice A p.steps.length c,Aj p.size] 89));have FA:=Aq ((qP B w).alloc hB (.cells #[.slice A p.steps.length c,Aj p.size] 89));have a8:=Aq (qG w 89 #[.slice A p.steps.length c,Aj p.size]);obtain⟨i0,f3,v1,z4,c0⟩:=Fe Zgj;obtain⟨i5,g8,j2,k0⟩:=e4;have hz:=h.aG.lt;have am:∀W:World,(Instr.makeSlice 22 (Aj ((p.steps.length:Int)+1)) (Aj ((p.steps.length:Int)+1))).run Tryz.prog W=.ok (.slice (some ⟨W.heap.size,0,none⟩) (p.steps.length+1) (p.steps.length+1)) (W.alloc (.cells (ae (List.replicate (p.steps.length+1) 0)).toArray 3)):=fun W=>by
  have:=Kg (p.steps.length+1) (by omega) W
  rwa [show ((p.steps.length+1:Nat):Int)=(p.steps.length:Int)+1 by omega]at this
 have a7:Hid (((w.alloc (.cells #[.slice A p.steps.length c,Aj p.size] 89)).alloc (.cells (ae (List.replicate (p.steps.length+1) 0)).toArray 3)).ownsRow w.heap.size 3 1 (.slice (some ⟨w.heap.size+1,0,none⟩) (p.steps.length+1) (p.steps.length+1)) (p.steps.length+1) (ae (Bu.jp ls aA.length p.steps.length 0))):=Aq (by
  rw[Bu.kW];have:=Fk (W:=w.alloc (.cells #[.slice A p.steps.length c,Aj p.size] 89)) (B:=w.heap.size) (t:=3) (size:=1) (n:=p.steps.length+1) (xs:=ae (List.replicate (p.steps.length+1) 0)) (by rw[Dg,oG,ow]) (by simp) (by unfold maxLen;omega)
  simpa using this)
 have z6:IntKind.i64.wrap ((p.steps.length:Int)+1)=(p.steps.length:Int)+1:=Do _ (by omega);clear h v3 hE hp y6 b3 b0 v8 x5;go_enter Tryz.func35,Tryz.ntmps35;go_wp2_with fail
 have b9:Hid (EmI w B bb pv ps aA ls p.steps A c p.size (w.heap.size+1) (.slice none 0 0) (Aj 0) ((w.alloc (.cells #[.slice A p.steps.length c,Aj p.size] 89)).alloc (.cells (ae (List.replicate (p.steps.length+1) 0)).toArray 3))):=Aq ⟨0,cv,by omega,rfl,a7.o,by exact Eo _ _ _ _,by simpa using HA.o.alloc _,FA.o.alloc (by simp;omega) _,a8.o.alloc _⟩;clear HA FA a8 a7 am z6;go_loopw [9,22] (fun v i wr=>EmI w B bb pv ps aA ls p.steps A c p.size (w.heap.size+1) v i wr) (fun _ i _=>p.steps.length-(intOf i).toNat)
 case atStart=>exact b9.o
 case round =>
  clear b9;obtain⟨j,i2,hj,rfl,H,S,z,l,hK⟩:=hrel;by_cases v2:j<p.steps.length
  ·obtain⟨⟨op,x,hi,go⟩,f⟩:∃s,p.steps[j]?=some s:=⟨_,Bf v2⟩;obtain⟨hL,b2,d6,d8⟩:=a1.o _ (Bz f);simp only at hL b2 d6 d8;obtain⟨sg,v5,cs,c6,d9,hrel,c1⟩:=(c4.o.frT l rfl (by decide) (by decide)).get f;have f9:=ns hrel;subst f9;have d0:=c1 0 _ rfl;have d1:=c1 1 _ rfl;have d2:=c1 2 _ rfl;have d3:=c1 3 _ rfl;simp only[kQ,Repr.map,Repr.bi,Repr.int,oh,Nat.reduceAdd]at d0 d1 d2 d3;subst c6;have y5:=e7.o _ _ f;simp only at y5;obtain⟨c3,y3⟩:=Bu.dO ls y5;have z2:=Bu.fV ls (j+1);have V:(aA++(ls.take j).flatten).length=aA.length+Bu.aZ ls j:=by rw[Ca];rfl
   obtain⟨Ac,cc,y4,f6,_⟩:=Bc z.aA;subst y4;have Q:=z.aG.cell 1;simp only[Az,Ay,Ba]at Q;rw[V]at Q;obtain⟨_,_,f2,d⟩:=Bg H (g:=w.heap.size+1) rfl;have e9:=d.frozen j;have P:=(Cf H (by omega));obtain⟨g',c',E,_,_,_,P⟩:=P;have g2:=P j _ (Cn (Bf (by rw[Bu.gh];omega)));obtain⟨rfl,rfl⟩:w.heap.size+1=g'∧p.steps.length+1=c':=by simpa using E
   have M:=Aq (Ee H (g:=w.heap.size+1) rfl (j:=j) (by rw[Dg,Bu.gh];omega) (Aj ((aA.length+Bu.aZ ls j:Nat):Int)));have a0:(ae (Bu.jp ls aA.length p.steps.length j)).set j (Aj ((aA.length+Bu.aZ ls j:Nat):Int))=ae (Bu.jp ls aA.length p.steps.length (j+1)):=by
    rw[←Gj,Bu.jy _ _ _ _ (by omega)]
   rw[a0]at M;have hs:=Aq (z.cZ d (by decide) j (Aj ((aA.length+Bu.aZ ls j:Nat):Int)));have ga:=Aq (l.kZ (g:=w.heap.size+1) (by omega) hB j (Aj ((aA.length+Bu.aZ ls j:Nat):Int)));have hF:=Aq (Ck S d (by decide) j (Aj ((aA.length+Bu.aZ ls j:Nat):Int)));have v7:=Aq (hK.cZ (p:=⟨w.heap.size+1,j,none⟩) (hK.dF d (by decide)) (Aj ((aA.length+Bu.aZ ls j:Nat):Int)));have v4:=l.below.size;have g4:=z.aG.lt;have d5:=d.lt;have j6:sg<wr.heap.size:=d9;have z0:=Aq V;have v9:=Aq y3;have j1:=Aq (show (Bu.aZ ls (j+1))=Bu.aZ ls j+_ from c3);have HS:=Aq f;have i6:aA.length+Bu.aZ ls j+(Bu.bD es (op,x) (aC+hi) loops).length≤1000000:=by omega
   generalize hN:aA.length+Bu.aZ ls j=N at *;have HN:=Aq hN;have i8:(j:Int)<p.steps.length:=by omega
   clear H S z l hK d a0 y5 c3 y3 z2 V f c1 hrel hN E;have G:=Aq (hs.o.alloc (.cells #[Aj op,Aj x,Aj hi,Aj (go:Int)] 145));have I:=Aq (ga.o.alloc (by simp[World.setCell];omega) (.cells #[Aj op,Aj x,Aj hi,Aj (go:Int)] 145));have R:=Aq (M.o.alloc (.cells #[Aj op,Aj x,Aj hi,Aj (go:Int)] 145));have Y:=Aq (hF.o.alloc (.cells #[Aj op,Aj x,Aj hi,Aj (go:Int)] 145));have O:=Aq (v7.o.alloc (.cells #[Aj op,Aj x,Aj hi,Aj (go:Int)] 145));have z8:w.heap.size≤((wr.setCell ⟨w.heap.size+1,j,none⟩ (Aj (N:Int))).alloc (.cells #[Aj op,Aj x,Aj hi,Aj (go:Int)] 145)).heap.size∧wr.heap.size<((wr.setCell ⟨w.heap.size+1,j,none⟩ (Aj (N:Int))).alloc (.cells #[Aj op,Aj x,Aj hi,Aj (go:Int)] 145)).heap.size∧bb<((wr.setCell ⟨w.heap.size+1,j,none⟩ (Aj (N:Int))).alloc (.cells #[Aj op,Aj x,Aj hi,Aj (go:Int)] 145)).heap.size:=⟨by simp[World.setCell];omega,by simp[World.setCell],by simp[World.setCell];omega⟩;have s0:((wr.setCell ⟨w.heap.size+1,j,none⟩ (Aj (N:Int))).alloc (.cells #[Aj op,Aj x,Aj hi,Aj (go:Int)] 145)).cell? ⟨wr.heap.size,0,none⟩=some (Aj op):=(qH _ _ _ (by simp[World.setCell])).cell 0;have s1:((wr.setCell ⟨w.heap.size+1,j,none⟩ (Aj (N:Int))).alloc (.cells #[Aj op,Aj x,Aj hi,Aj (go:Int)] 145)).cell? ⟨wr.heap.size,1,none⟩=some (Aj x):=(qH _ _ _ (by simp[World.setCell])).cell 1
   have s2:((wr.setCell ⟨w.heap.size+1,j,none⟩ (Aj (N:Int))).alloc (.cells #[Aj op,Aj x,Aj hi,Aj (go:Int)] 145)).cell? ⟨wr.heap.size,2,none⟩=some (Aj hi):=(qH _ _ _ (by simp[World.setCell])).cell 2;have s3:((wr.setCell ⟨w.heap.size+1,j,none⟩ (Aj (N:Int))).alloc (.cells #[Aj op,Aj x,Aj hi,Aj (go:Int)] 145)).cell? ⟨wr.heap.size,3,none⟩=some (Aj (go:Int)):=(qH _ _ _ (by simp[World.setCell])).cell 3;have b1:=G.o.aG.cell 1;simp only[Az,Ay,Ba]at b1;rw[z0.o]at b1;clear hs ga M hF v7;by_cases a2:op=35∨op=36
   ·have X:=Bu.gT ls p.steps aA.length j HS.o;rw[show Bu.cR op=true by unfold Bu.cR;simpa using a2,if_pos rfl,HN.o]at X;have g0:=Aq X;obtain⟨Af,cf,x7,_,_⟩:=Bc Y.o;subst x7;have x2:=Aq (show (Bu.cH ls p.steps aA.length j).length≤1000000 by unfold Bu.cH;rw[Gc];have:=Bu.iW p.steps j;omega);generalize Bu.cH ls p.steps aA.length j=fj at *;have e1:=x2.o;have L:=Aq (Y.o.drew.alloc (.cells #[Aj (N:Int),Aj (go:Int)] 150));have v0:=Aq (G.o.drew.alloc (.cells #[Aj (N:Int),Aj (go:Int)] 150));have a9:=Aq (I.o.drew.alloc (by show B≤((wr.setCell ⟨w.heap.size+1,j,none⟩ (Aj (N:Int))).alloc (.cells #[Aj op,Aj x,Aj hi,Aj (go:Int)] 145)).heap.size;omega) (.cells #[Aj (N:Int),Aj (go:Int)] 150));have x8:=Aq (R.o.drew.alloc (.cells #[Aj (N:Int),Aj (go:Int)] 150));have z1:=Aq (O.o.drew.alloc (.cells #[Aj (N:Int),Aj (go:Int)] 150));have y7:=Aq (((qH _ _ _ (by simp[World.setCell]):aH ((wr.setCell ⟨w.heap.size+1,j,none⟩ (Aj (N:Int))).alloc (.cells #[Aj op,Aj x,Aj hi,Aj (go:Int)] 145)) wr.heap.size 145 #[Aj op,Aj x,Aj hi,Aj (go:Int)]).drew).alloc (.cells #[Aj (N:Int),Aj (go:Int)] 150))
    have v6:Hid (aE (((wr.setCell ⟨w.heap.size+1,j,none⟩ (Aj (N:Int))).alloc (.cells #[Aj op,Aj x,Aj hi,Aj (go:Int)] 145)).drew.alloc (.cells #[Aj (N:Int),Aj (go:Int)] 150)) (((wr.setCell ⟨w.heap.size+1,j,none⟩ (Aj (N:Int))).alloc (.cells #[Aj op,Aj x,Aj hi,Aj (go:Int)] 145)).drew.alloc (.cells #[Aj (N:Int),Aj (go:Int)] 150)).heap.size 2 (some ⟨wr.heap.size+1,0,none⟩) 1 [Aj (N:Int),Aj (go:Int)]):=Aq (qM (cs:=[Aj (N:Int),Aj (go:Int)]) (qH _ 150 _ (by show wr.heap.size+1=((wr.setCell ⟨w.heap.size+1,j,none⟩ (Aj (N:Int))).alloc (.cells #[Aj op,Aj x,Aj hi,Aj (go:Int)] 145)).heap.size;simp[World.setCell])) 2 1 rfl);have b8:w.heap.size≤(((wr.setCell ⟨w.heap.size+1,j,none⟩ (Aj (N:Int))).alloc (.cells #[Aj op,Aj x,Aj hi,Aj (go:Int)] 145)).drew.alloc (.cells #[Aj (N:Int),Aj (go:Int)] 150)).heap.size:=Ex z8.1 (by simp[World.drew]);clear X x2 Y G I R O;have f4:(op==35)=true∨((op==35)=false∧(op==36)=true):=by
     rcases a2 with y9|y9
     ·exact .inl (by simp[y9])
     ·exact .inr (by simp[y9])
    clear a2;rcases f4 with b6|⟨b6,e8⟩
    all_goals
     go_wp2_with fail
     have D:((wr.setCell ⟨w.heap.size+1,j,none⟩ (Aj (N:Int))).alloc (.cells #[Aj op,Aj x,Aj hi,Aj (go:Int)] 145)).drew.cell? ⟨bb,1,none⟩=some (.slice Ac N cc)∧((wr.setCell ⟨w.heap.size+1,j,none⟩ (Aj (N:Int))).alloc (.cells #[Aj op,Aj x,Aj hi,Aj (go:Int)] 145)).drew.cell? ⟨wr.heap.size,3,none⟩=some (Aj (go:Int)):=⟨b1,s3⟩;refine Cv [9,10] [4,7] [] 12 (fun wq:World=>wq.cell? ⟨bb,1,none⟩=some (.slice Ac N cc)∧wq.cell? ⟨wr.heap.size,3,none⟩=some (Aj (go:Int))) ?_
     iterate 9 (first|refine Be ?_|refine Bj D ?_)
     refine Bi fun K U=>?_;go_simp
     refine Bh U ?_;clear U K;refine Bi fun K U=>?_
     refine Hl _ rfl (.tmp 45) (.tmp 54) _ rfl 150 i0 _ 2 16 Tryz.underlying148 f3 v1 z4 c0 rfl (by decide) w.heap.size _ _ _ rfl L.o b8 _ _ 1 1 [Aj (N:Int),Aj (go:Int)] rfl v6.o (by simp[Value.oneCell']) (by unfold maxLen;omega) (by omega) ?_;intro v' W3 b5 hg f8;have G:=Aq (v0.o.grown L.o hg (by decide));have I:=Aq (a9.o.grown hg hB fun r e=>(Bg L.o e).1);have R:=Aq (Cx x8.o hg (Ds x8.o L.o (by decide)));have Y:Hid (W3.ownsRow w.heap.size 150 2 v' (Bu.cH ls p.steps aA.length (j+1)).length (it (Bu.cH ls p.steps aA.length (j+1)))):=Aq (by
      rw[g0.o]
      simpa [it]using b5)
     have O:=Aq (z1.o.grown hg fun e=>by
      obtain⟨_,_,_,b⟩:=Bg L.o e.symm;exact z1.o.dF b (by decide) rfl)
     have x4:=y7.o.grown hg fun e=>by
      obtain⟨_,_,_,b⟩:=Bg L.o e.symm;exact y7.o.dF b (by decide) rfl
     have i3:=I.o.below.size;clear b5 hg f8 v0 a9 x8 L z1 y7 v6 s0 s1 s2 s3 b1 z8 b8;have s0:=x4.cell 0;have s1:=x4.cell 1;have s2:=x4.cell 2;simp only[Az,Ay,Ba]at s0 s1 s2;clear x4;refine Bh U ?_;clear U K
     iterate 1 (first|refine Be ?_|refine Bj D ?_)
     refine Bb ?_;clear D;go_wp2_with fail
     refine(b7.o W3 _ _ G.o (by omega) op x (aC+hi) hL ⟨by omega,by omega,by omega,by omega⟩ (by rw[z0.o];omega)).mono ?_;rintro e w6⟨rfl,⟨y0,hS⟩,Z⟩;have HR:Hid (EmI w B bb pv ps aA ls p.steps (some ⟨sg,v5,none⟩) c p.size (w.heap.size+1) _ (Aj ((j:Int)+1)) w6):=Aq ⟨j+1,y0,by omega,by simp,Dd R.o fun g e=>by
      obtain⟨_,_,cs,b⟩:=Bg R.o e;exact(Z.aG b (by decide) (by decide)).trans b.symm,Dd Y.o fun g e=>by
      obtain⟨_,_,cs,b⟩:=Bg Y.o e;exact(Z.aG b (by decide) (by decide)).trans b.symm,by
      rw[v9.o,←ox];exact hS,I.o.trans Z,Z.aG O.o (by decide) (by decide)⟩
     clear hS Z G I R Y O;go_wp2;go_roundw
     case rel=>exact HR.o
     case measure=>simp[intOf];omega
   ·have d4:¬ op=35:=fun e=>a2 (.inl e)
    have d7:¬ op=36:=fun e=>a2 (.inr e)
    have X:=Bu.gT ls p.steps aA.length j HS.o;rw[show Bu.cR op=false by unfold Bu.cR;simpa using a2]at X;simp only[pN,if_false,oO]at X;rw[←X]at Y;have b6:(op==35)=false:=by simpa using d4
    have e8:(op==36)=false:=by simpa using d7
    clear X a2 s0 s1 s2 s3 b1;go_wp2_with fail
    generalize ((wr.setCell ⟨w.heap.size+1,j,none⟩ (Aj (N:Int))).alloc (.cells #[Aj op,Aj x,Aj hi,Aj (go:Int)] 145))=W3 at *;refine(b7.o W3 _ _ G.o (by omega) op x (aC+hi) hL ⟨by omega,by omega,by omega,by omega⟩ (by rw[z0.o];omega)).mono ?_;rintro e w6⟨rfl,⟨y0,hS⟩,Z⟩;have HR:Hid (EmI w B bb pv ps aA ls p.steps (some ⟨sg,v5,none⟩) c p.size (w.heap.size+1) _ (Aj ((j:Int)+1)) w6):=Aq ⟨j+1,y0,by omega,by simp,Dd R.o fun g e=>by
     obtain⟨_,_,cs,b⟩:=Bg R.o e;exact(Z.aG b (by decide) (by decide)).trans b.symm,Dd Y.o fun g e=>by
     obtain⟨_,_,cs,b⟩:=Bg Y.o e;exact(Z.aG b (by decide) (by decide)).trans b.symm,by
     rw[v9.o,←ox];exact hS,I.o.trans Z,Z.aG O.o (by decide) (by decide)⟩
    clear hS Z G I R Y O;go_wp2;go_roundw
    case rel=>exact HR.o
    case measure=>simp[intOf];omega
  ·obtain rfl:j=p.steps.length:=by omega
   clear hj;have x5:(ls.take p.steps.length).flatten=(Bu.fl ls p.steps fun k=>((Bu.az p.steps p.steps.length).take 0).contains k).flatten:=by
    rw[oL (by have:=x3.o;omega)];simp only[List.take_zero,List.contains_nil];rw[Bu.iq _ _ x3.o]
   have V:(aA++(ls.take p.steps.length).flatten).length=aA.length+Bu.aZ ls p.steps.length:=by rw[Ca];rfl
   obtain⟨Ac,cc,y4,f6,_⟩:=Bc z.aA;subst y4;have Q:=z.aG.cell 1;have p0:=hK.cell 0;simp only[Az,Ay,Ba]at Q p0;rw[V]at Q;obtain⟨_,_,f2,d⟩:=Bg H (g:=w.heap.size+1) rfl;have e9:=d.frozen p.steps.length;obtain⟨g',c',E,_,_,_,P⟩:=Cf H (by omega);have g2:=P p.steps.length _ (Cn (Bf (by rw[Bu.gh];omega)));obtain⟨rfl,rfl⟩:w.heap.size+1=g'∧p.steps.length+1=c':=by simpa using E
   have M:=Aq (Ee H (g:=w.heap.size+1) rfl (j:=p.steps.length) (by rw[Dg,Bu.gh];omega) (Aj ((aA.length+Bu.aZ ls p.steps.length:Nat):Int)));rw[←Gj,Bu.jy _ _ _ _ (by omega)]at M;have hs:=Aq (z.cZ d (by decide) p.steps.length (Aj ((aA.length+Bu.aZ ls p.steps.length:Nat):Int)));rw[x5]at hs;have ga:=Aq (l.kZ (g:=w.heap.size+1) (by omega) hB p.steps.length (Aj ((aA.length+Bu.aZ ls p.steps.length:Nat):Int)));have hF:=Aq (Ck S d (by decide) p.steps.length (Aj ((aA.length+Bu.aZ ls p.steps.length:Nat):Int)));have z2:=Bu.fV ls p.steps.length;have v4:=l.below.size;have g4:=z.aG.lt;have d5:=d.lt;have i1:aA.length+Bu.aZ ls p.steps.length≤1000000:=by omega
   have x2:=Aq (show (Bu.cH ls p.steps aA.length p.steps.length).length≤1000000 by unfold Bu.cH;rw[Gc];have:=Bu.iW p.steps p.steps.length;omega);obtain⟨Af,cf,x7,_,_⟩:=Bc hF.o;subst x7;have z7:Hid (EmJ w B bb pv ps aA ls p.steps (w.heap.size+1) (.slice Af (Bu.cH ls p.steps aA.length p.steps.length).length cf) (Aj 0) (wr.setCell ⟨w.heap.size+1,p.steps.length,none⟩ (Aj ((aA.length+Bu.aZ ls p.steps.length:Nat):Int))).drew):=Aq ⟨0,_,by omega,rfl,M.o.drew,hF.o.drew,hs.o.drew,ga.o.drew⟩;clear x5 V H S z l hK d z2 P E M hs ga hF;generalize aA.length+Bu.aZ ls p.steps.length=N at *;generalize hb:(Bu.cH ls p.steps aA.length p.steps.length).length=F at *;have e1:=x2.o;have i4:(p.steps.length:Int)<(p.steps.length:Int)+1:=by omega
   go_wp2_with fail
   have D:wr.drew.cell? ⟨w.heap.size,0,none⟩=some (.slice A p.steps.length c)∧wr.drew.cell? ⟨bb,1,none⟩=some (.slice Ac N cc):=⟨p0,Q⟩;refine Cv [10] [2,7] [] 11 (fun wq:World=>wq.cell? ⟨w.heap.size,0,none⟩=some (.slice A p.steps.length c)∧wq.cell? ⟨bb,1,none⟩=some (.slice Ac N cc)) ?_
   iterate 10 (first|refine Be ?_|refine Bj D ?_)
   refine Bi fun K U=>?_;go_simp
   refine Bh U ?_;clear U K;refine Bb ?_;clear D;go_wp2_with fail
   go_loopw [78] (fun i wr=>EmJ w B bb pv ps aA ls p.steps (w.heap.size+1) (.slice Af F cf) i wr) (fun i _=>F-(intOf i).toNat)
   case atStart=>exact z7.o
   case round =>
    clear z7;obtain⟨m,i9,hm,rfl,H,S,z,l⟩:=hrel;rw[hb]at hm;by_cases v2:m<F
    ·obtain⟨q,hq⟩:∃q,(Bu.az p.steps p.steps.length)[m]?=some q:=⟨_,Bf (by unfold Bu.cH at hb;rw[Gc]at hb;omega)⟩;obtain⟨j5,s,f,b4⟩:=(Bu.gK p.steps).1 (Bz hq);obtain⟨r,hr,X⟩:=c5.o _ _ f b4;have j9:=(a1.o _ (Bz f)).2.2.2;have j7:=Bu.fV ls s.go;have a5:(Bu.cH ls p.steps aA.length p.steps.length)[m]?=some (aA.length+Bu.aZ ls q,s.go):=by
      unfold Bu.cH;rw[Cd,hq];simp[Bo,f]
     obtain⟨hL,b2⟩:=Bu.kR ls p.steps x3.o aA m q hq r _ hr X;obtain⟨gf,f7,y8,_,_,i7,x9⟩:=Cf S (by omega);obtain⟨x0,x1⟩:=Nf a5;have f0:=x9 _ _ x0;have f1:=x9 _ _ x1;have z5:=Bu.nr ls aA.length p.steps.length (p.steps.length+1) s.go (by omega) Aw;obtain⟨g',c',E,_,_,g3,P⟩:=Cf H (by omega);have t0:=P _ _ (Cn z5);obtain⟨rfl,rfl⟩:w.heap.size+1=g'∧p.steps.length+1=c':=by simpa using E
     have V:=(aS.1 hL).1;obtain⟨J,ca,e0,g5,_,j4,_⟩:=Cf z.aA (Nat.lt_of_le_of_lt (By _) V);subst e0;have a4:=Bu.kh ls p.steps x3.o (fun k=>((Bu.az p.steps p.steps.length).take m).contains k);have c7:(aA++(Bu.fl ls p.steps fun k=>((Bu.az p.steps p.steps.length).take m).contains k).flatten).length=aA.length+ls.flatten.length:=by rw[Ca,a4]
     have c9:(Af=some ⟨gf,0,none⟩)∧cf=f7:=by
      rw[hb]at y8
      simpa using y8
     obtain⟨rfl,rfl⟩:=c9;generalize k1:aA.length+Bu.aZ ls q=y at *;generalize y3:aA.length+Bu.aZ ls s.go=C at *;have hv:((Bu.aZ ls s.go:Nat):Int)-(Bu.aZ ls q:Nat)-1=(C:Int)-y-1:=by omega
     rw[hv]at b2;have z6:IntKind.i64.wrap ((C:Int)-y)=C-y:=Do _ (by omega);have g7:IntKind.i64.wrap ((C:Int)-y-1)=C-y-1:=Do _ (by omega);have v4:=l.below.size;have x6:=(z.alloc (.cells #[Aj (y:Int),Aj (s.go:Int)] 150)).drew;obtain⟨y2,z3⟩:=z.iy (g:=J) rfl hL ((C:Int)-y-1);obtain⟨_,_,g9,y1⟩:=Bg z.aA (g:=J) rfl;rw[b2]at y2;obtain⟨_,_,j3,d⟩:=Bg x6.aA (g:=J) rfl;have j0:=d.frozen (y*5+4);have z9:=x6.aA;have Q:=z.aG.cell 1;simp only[Az,Ay,Ba]at Q;have e6:∃u,(wr.alloc (.cells #[Aj (y:Int),Aj (s.go:Int)] 150)).cell? ⟨J,y*5+4,none⟩=some u:=by
      obtain⟨_,_,e,_,_,_,e3⟩:=Cf z9 (Nat.lt_of_le_of_lt (By _) V);simp only[Value.slice.injEq,Bw,Addr.mk.injEq,and_true,true_and]at e;obtain⟨rfl,rfl⟩:=e;exact⟨_,e3 _ _ (Bf (by rw[Kz];omega))⟩
     obtain⟨ua,g6⟩:=e6;have HR:Hid (EmJ w B bb pv ps aA ls p.steps (w.heap.size+1) (.slice (some ⟨gf,0,none⟩) F cf) (Aj ((m:Int)+1)) ((wr.setCell ⟨J,y*5+4,none⟩ (Aj ((C:Int)-y-1))).alloc (.cells #[Aj (y:Int),Aj (s.go:Int)] 150)).drew):=Aq ⟨m+1,_,by omega,by simp,((Ck H y1 (by decide) _ _).alloc _).drew,((Ck S y1 (by decide) _ _).alloc _).drew,(y2.alloc _).drew,((l.trans z3).alloc (by simp[World.setCell];omega) _).drew⟩;have a6:=z.aG.lt;generalize f5:(aA++(Bu.fl ls p.steps fun k=>((Bu.az p.steps p.steps.length).take m).contains k).flatten).length=LL at *;have v1:(m:Int)<F:=by omega
     have z4:(s.go:Int)<(p.steps.length:Int)+1:=by omega
     have c0:(y:Int)<LL:=by omega
     have j8:bb<wr.heap.size:=a6;have t1:=(Cc wr (.cells #[Aj (y:Int),Aj (s.go:Int)] 150) ⟨w.heap.size+1,s.go,none⟩ g3).trans t0;have c2:=(Cc wr (.cells #[Aj (y:Int),Aj (s.go:Int)] 150) ⟨bb,1,none⟩ a6).trans Q;have n0:(wr.alloc (.cells #[Aj (y:Int),Aj (s.go:Int)] 150)).cell? ⟨wr.heap.size,0,none⟩=some (Aj (y:Int)):=(qG wr _ _).cell 0;have n1:(wr.alloc (.cells #[Aj (y:Int),Aj (s.go:Int)] 150)).cell? ⟨wr.heap.size,1,none⟩=some (Aj (s.go:Int)):=(qG wr _ _).cell 1;clear c7 V f5 z l H S x6 y2 z3 y1 z9 hL b2 X hr a5 x9 P z5 y8 E hq f a4 x0 x1 d b4;go_wp2_with fail
     have D:(wr.alloc (.cells #[Aj (y:Int),Aj (s.go:Int)] 150)).drew.cell? ⟨bb,1,none⟩=some (.slice (some ⟨J,0,none⟩) LL ca)∧(wr.alloc (.cells #[Aj (y:Int),Aj (s.go:Int)] 150)).drew.cell? ⟨wr.heap.size,0,none⟩=some (Aj (y:Int))∧(wr.alloc (.cells #[Aj (y:Int),Aj (s.go:Int)] 150)).drew.cell? ⟨wr.heap.size,1,none⟩=some (Aj (s.go:Int))∧(wr.alloc (.cells #[Aj (y:Int),Aj (s.go:Int)] 150)).drew.cell? ⟨w.heap.size+1,s.go,none⟩=some (Aj (C:Int)):=⟨c2,n0,n1,t1⟩;refine Cv [17] [3,5,8,10,12] [] 18 (fun wq:World=>wq.cell? ⟨bb,1,none⟩=some (.slice (some ⟨J,0,none⟩) LL ca)∧wq.cell? ⟨wr.heap.size,0,none⟩=some (Aj (y:Int))∧wq.cell? ⟨wr.heap.size,1,none⟩=some (Aj (s.go:Int))∧wq.cell? ⟨w.heap.size+1,s.go,none⟩=some (Aj (C:Int))) ?_
     iterate 17 (first|refine Be ?_|refine Bj D ?_)
     refine Bi fun K U=>?_;go_simp
     refine Bh U ?_;clear U K;refine Bb ?_;clear D;go_wp2_with fail
     go_roundw
     case rel=>exact HR.o
     case measure=>simp[intOf];omega
    ·have a3:(Bu.az p.steps p.steps.length).length≤m:=by
      unfold Bu.cH at hb;rw[Gc]at hb;omega
     rw[oL a3,e5.o]at z;have HR:Hid (cI w B bb pv ps (aA++T) (.returned (.tuple #[])) wr):=Aq ⟨rfl,⟨_,z⟩,l⟩;obtain rfl:m=F:=by omega
     clear z l H S a3;go_wp2_with fail
     go_end0;exact HR.o
end
end Go.Proofs.YtnhebmgibiomnaaGreat
