import Derived.Test.YtnhebmgibiomnaaGreatPh14
set_option linter.unusedVariables false
set_option linter.unusedSimpArgs false
set_option maxRecDepth 100000
set_option maxHeartbeats 8000000
namespace Go.Proofs.YtnhebmgibiomnaaGreat
section
open Go.RowKit Mc
def Wd (k:Nat)(p:Bu.aq):Prop:=∀s∈p.steps,((s.op=37∨s.op=38)→0≤s.a∧s.a<k)∧-64≤s.aC∧s.aC≤64∧s.go≤p.steps.length
theorem fQ.dE {w:World}{B bb:Nat}{pv cv:Value}{ps:List Bu.aq}{aA:List Sr.bE}(h:fQ w B bb pv cv ps aA){g:Nat}{t:TypeId}{cs:Array Value}(y:aH w g t cs) (z:t ∉ [86,50,89,145]) (i:Nat) (u:Value):fQ (w.setCell ⟨g,i,none⟩ u) B bb pv cv ps aA:=by
 simp only[Ga,not_or,If,not_false_eq_true,and_true]at z;obtain⟨a,k,d,b⟩:=z;refine⟨h.aG.dE (p:=⟨g,i,none⟩) (h.aG.dF y (fun e=>a e.symm)) u,?_,Ci h.aA y k i u,h.aN,h.fd⟩;obtain⟨A,c,e,r⟩:=h.ps;refine⟨A,c,e,(r.aQ fun q t' xs' v _ x s=>Hg y i u q t' xs' v (fun e=>?_) s).a_ (by simp[World.setCell])⟩;subst e;rcases x with x|x
 ·omega
 ·simp only[Kz,kZ,Repr.map,Repr.bi,Repr.row,Repr.int,oC,Ga,If,or_false]at x;rcases x with x|x
  ·exact d x
  ·exact b x
theorem eG.kz {B:Nat}{w W:World}(h:eG B w W){g:Nat}(v:w.heap.size≤g)(q:B≤w.heap.size)(i:Nat)(u:Value):eG B w (W.setCell ⟨g,i,none⟩ u) :=
 ⟨h.below.setCell (p:=⟨g,i,none⟩) (by show B≤g;omega) u,fun k t cs x e z y=>by
  rw[Bp _ _ _ _ (by have:=(bN.1 e).1;show k≠g;omega)];exact h.aQ k t cs x e z y⟩
namespace Bu
def ju (ls:List (List Sr.bE)) (n0 n i:Nat):List Int:=(List.range (n+1)).map fun k=>if k<i then((n0+aX ls k:Nat):Int) else 0
theorem gj (ls:List (List Sr.bE)) (n0 n i:Nat):(ju ls n0 n i).length=n+1:=by unfold ju;simp
theorem kP (ls:List (List Sr.bE)) (n0 n:Nat):ju ls n0 n 0=List.replicate (n+1) 0:=by
 unfold ju;refine List.ext_getElem (by simp) fun k y x=>?_
 simp
theorem jk (ls:List (List Sr.bE)) (n0 n i:Nat) (h:i<n+1):(ju ls n0 n i).set i ((n0+aX ls i:Nat):Int)=ju ls n0 n (i+1):=by
 unfold ju;refine List.ext_getElem (by simp) fun k z y=>?_
 rw[List.getElem_set];simp only[List.getElem_map,List.getElem_range];by_cases x:i=k
 ·subst x;simp
 ·rw[if_neg x];have:(k<i)=(k<i+1):=propext (by omega);simp only[this]
theorem mx (ls:List (List Sr.bE)) (n0 n i k:Nat) (h:k<i) (hi:i≤n+1):(ju ls n0 n i)[k]?=some ((n0+aX ls k:Nat):Int):=by
 unfold ju;rw[Cc,eq (by omega)];simp[h]
theorem kr (ls:List (List Sr.bE)) (st:List PS) (h:ls.length=st.length) (aA:List Sr.bE) (m q:Nat) (x:(az st st.length)[m]?=some q) (r r':Sr.bE) (a:ls[q]?=some [r]) (c:fixed ls st q=[r']) :
  (aA++(fl ls st fun k=>((az st st.length).take m).contains k).flatten)[aA.length+aX ls q]?=some r ∧
  (aA++(fl ls st fun k=>((az st st.length).take m).contains k).flatten).set (aA.length+aX ls q) r'=aA++(fl ls st fun k=>((az st st.length).take (m+1)).contains k).flatten:=by
 have u:q<st.length:=((gF st).1 (Bx x)).1;have s:((az st st.length).take m).contains q=false:=by
  rw[Bool.eq_false_iff];intro z;rw[List.contains_iff_mem]at z;obtain⟨i,hi,e⟩:=List.mem_iff_getElem.1 z;rw[List.getElem_take]at e;rw[Dn]at hi;obtain⟨d,b⟩:=aS.1 x;have:=(List.getElem_inj (Ti st st.length)).1 (e.trans b.symm);omega
 have p:(fl ls st fun k=>((az st st.length).take m).contains k)[q]?=some (r::[]):=by
  unfold fl;rw[Cc,eq u];simp only[ou,s,pC,if_false,Bn,a,ow]
 obtain⟨v,y⟩:=Tq _ _ _ _ p;rw[Zgb ls st h]at v y;refine⟨?_,?_⟩
 ·rw[Dp (by omega)]
  simpa using v
 ·rw[oI _ _ (by omega),oY,y r',←c,mz ls st _ q u]
  congr 2
  refine congrArg (fl ls st) (funext fun k=>?_);rw[oh,x];simp[List.contains_eq_mem,Bool.beq_eq_decide_eq]
end Bu
def EmI (w:World)(B bb:Nat)(pv:Value)(ps:List Bu.aq)(aA:List Sr.bE) (ls:List (List Sr.bE)) (st:List Bu.PS) (A:Option Addr) (c:Nat) (z:Int) (x:Nat) (v i:Value) (wr:World):Prop :=
 ∃(j:Nat) (cv:Value),j≤st.length∧i=Aj (j:Int)∧wr.ownsRow w.heap.size 3 1 (.slice (some ⟨x,0,none⟩) (st.length+1) (st.length+1)) (st.length+1) (ae (Bu.ju ls aA.length st.length j)) ∧
  wr.ownsRow w.heap.size 150 2 v (Bu.cE ls st aA.length j).length (ir (Bu.cE ls st aA.length j))∧fQ wr B bb pv cv ps (aA++(ls.take j).flatten)∧eG B w wr∧aH wr w.heap.size 89 #[.slice A st.length c,Aj z]
def EmJ (w:World)(B bb:Nat)(pv:Value)(ps:List Bu.aq)(aA:List Sr.bE) (ls:List (List Sr.bE)) (st:List Bu.PS) (x:Nat) (v i:Value) (wr:World):Prop :=
 ∃(m:Nat) (cv:Value),m≤(Bu.cE ls st aA.length st.length).length∧i=Aj (m:Int)∧wr.ownsRow w.heap.size 3 1 (.slice (some ⟨x,0,none⟩) (st.length+1) (st.length+1)) (st.length+1) (ae (Bu.ju ls aA.length st.length (st.length+1))) ∧
  wr.ownsRow w.heap.size 150 2 v (Bu.cE ls st aA.length st.length).length (ir (Bu.cE ls st aA.length st.length))∧fQ wr B bb pv cv ps (aA++(Bu.fl ls st fun k=>((Bu.az st st.length).take m).contains k).flatten)∧eG B w wr
theorem Zfw:(Tryz.prog.info? 150).map (fun i=>(i.zero,i.size,i.bytes))=some (some (.agg #[Aj 0,Aj 0]),2,16):=by kernel_rfl
theorem Rp (es:List Bu.cV)(ps:List Bu.aq)(k:Nat)(hk:k≤ps.length)(hE:∀j,j<k→Wf es ps j)(p:Bu.aq)(hp:Wd k p)(w:World)(B bb:Nat)(pv cv:Value)(aA:List Sr.bE)(A:Option Addr)(c:Nat)(aC loops:Int)(h:fQ w B bb pv cv ps aA)(hB:B≤w.heap.size) (u1:af (kZ 0) 145 w w.heap.size A p.steps) (hn:p.steps.length<1000000) (e5:EmB k aC loops) (c7:aA.length+(Bu.cC es p aC loops).length≤1000000) :
  Calls Tryz.prog 35 #[.pointer (some ⟨bb,0,none⟩),.agg #[.slice A p.steps.length c,Aj p.size],Aj aC,Aj loops] w (cG w B bb pv ps (aA++Bu.cC es p aC loops)):=by
 have y2:=Bu.eD es p aC loops;rw[Bu.iU]at c7;have z3:∀(i:Nat) s,p.steps[i]?=some s→(Bu.b_ es p aC loops)[i]?=some (Bu.bD es (s.op,s.a) (aC+s.aC) loops):=fun i s f=>by
  unfold Bu.b_;rw[Cc,f];rfl
 have u7:=fun (i:Nat) (s:Bu.PS) (h1:p.steps[i]?=some s) (h2:Bu.cQ s.op=true)=>Bu.jO (es:=es) (aC:=aC) (loops:=loops) h1 h2
 have v1:(Bu.fl (Bu.b_ es p aC loops) p.steps fun k=>(Bu.az p.steps p.steps.length).contains k).flatten=Bu.cC es p aC loops:=Bu.jo _ _ y2;generalize h0:Bu.b_ es p aC loops=ls at *;generalize Bu.cC es p aC loops=T at *;have e1:=Aq v1;have d9:=Aq z3;have a4:=Aq u7;have h4:=Aq y2;have b5:=Aq u1;have v3:=Aq (fun (W:World) (d5:Value) (a9:List Sr.bE) hW b7 (op x next:Int) (hc:(op=37∨op=38)→0≤x∧x<k) f hl=>Zda W B bb pv d5 ps a9 hW b7 es op x next loops k hk hE (fun j hj=>Zdb es ps j (hE j hj)) hc f hl);have v7:=Aq hp;have HA:=Aq (h.alloc (.cells #[.slice A p.steps.length c,Aj p.size] 89));have FA:=Aq ((qD B w).alloc hB (.cells #[.slice A p.steps.length c,Aj p.size] 89));have u2:=Aq (qv w 89 #[.slice A p.steps.length c,Aj p.size]);obtain⟨i0,c0,y8,z4,a0⟩:=Eu Zfw;obtain⟨g7,f5,f7,g0⟩:=e5;have hz:=h.aG.lt;have am:∀W:World,(Instr.makeSlice 22 (Aj ((p.steps.length:Int)+1)) (Aj ((p.steps.length:Int)+1))).run Tryz.prog W=.ok (.slice (some ⟨W.heap.size,0,none⟩) (p.steps.length+1) (p.steps.length+1)) (W.alloc (.cells (ae (List.replicate (p.steps.length+1) 0)).toArray 3)):=fun W=>by
  have:=Jv (p.steps.length+1) (by omega) W
  rwa [show ((p.steps.length+1:Nat):Int)=(p.steps.length:Int)+1 by omega]at this
 have y6:Hid (((w.alloc (.cells #[.slice A p.steps.length c,Aj p.size] 89)).alloc (.cells (ae (List.replicate (p.steps.length+1) 0)).toArray 3)).ownsRow w.heap.size 3 1 (.slice (some ⟨w.heap.size+1,0,none⟩) (p.steps.length+1) (p.steps.length+1)) (p.steps.length+1) (ae (Bu.ju ls aA.length p.steps.length 0))):=Aq (by
  rw[Bu.kP];have:=Fc (W:=w.alloc (.cells #[.slice A p.steps.length c,Aj p.size] 89)) (B:=w.heap.size) (t:=3) (size:=1) (n:=p.steps.length+1) (xs:=ae (List.replicate (p.steps.length+1) 0)) (by rw[Dc,ot,ox]) (by simp) (by unfold maxLen;omega)
  simpa using this)
 have u0:IntKind.i64.wrap ((p.steps.length:Int)+1)=(p.steps.length:Int)+1:=Do _ (by omega);clear h u1 hE hp y2 z3 u7 v1 h0;go_enter Tryz.func35,Tryz.ntmps35;go_wp2_with fail
 have v6:Hid (EmI w B bb pv ps aA ls p.steps A c p.size (w.heap.size+1) (.slice none 0 0) (Aj 0) ((w.alloc (.cells #[.slice A p.steps.length c,Aj p.size] 89)).alloc (.cells (ae (List.replicate (p.steps.length+1) 0)).toArray 3))):=Aq ⟨0,cv,by omega,rfl,y6.o,by exact Eh _ _ _ _,by simpa using HA.o.alloc _,FA.o.alloc (by simp;omega) _,u2.o.alloc _⟩;clear HA FA u2 y6 am u0;go_loopw [9,22] (fun v i wr=>EmI w B bb pv ps aA ls p.steps A c p.size (w.heap.size+1) v i wr) (fun _ i _=>p.steps.length-(intOf i).toNat)
 case atStart=>exact v6.o
 case round =>
  clear v6;obtain⟨j,f6,hj,rfl,l,S,z,H,b2⟩:=hrel;by_cases z2:j<p.steps.length
  ·obtain⟨⟨op,x,hi,go⟩,f⟩:∃s,p.steps[j]?=some s:=⟨_,Bg z2⟩;obtain⟨M,hS,b6,c8⟩:=v7.o _ (Bx f);simp only at M hS b6 c8;obtain⟨sg,y7,cs,d6,c4,hrel,ga⟩:=(b5.o.frT H rfl (by decide) (by decide)).get f;have a7:=nH hrel;subst a7;have d0:=ga 0 _ rfl;have d1:=ga 1 _ rfl;have d2:=ga 2 _ rfl;have d3:=ga 3 _ rfl;simp only[kZ,Repr.map,Repr.bi,Repr.int,oq,Nat.reduceAdd]at d0 d1 d2 d3;subst d6;have y0:=d9.o _ _ f;simp only at y0;obtain⟨v9,x2⟩:=Bu.dQ ls y0;have y4:=Bu.fX ls (j+1);have V:(aA++(ls.take j).flatten).length=aA.length+Bu.aX ls j:=by rw[Bz];rfl
   obtain⟨Ac,cc,x8,b3,_⟩:=Ba z.aA;subst x8;have C:=z.aG.cell 1;simp only[Az,Ay,Bc]at C;rw[V]at C;obtain⟨_,_,a1,b⟩:=Bf l (g:=w.heap.size+1) rfl;have b4:=b.frozen j;have D:=(Ce l (by omega));obtain⟨g',c',G,_,_,_,D⟩:=D;have b8:=D j _ (Ck (Bg (by rw[Bu.gj];omega)));obtain⟨rfl,rfl⟩:w.heap.size+1=g'∧p.steps.length+1=c':=by simpa using G
   have L:=Aq (Dz l (g:=w.heap.size+1) rfl (j:=j) (by rw[Dc,Bu.gj];omega) (Aj ((aA.length+Bu.aX ls j:Nat):Int)));have z5:(ae (Bu.ju ls aA.length p.steps.length j)).set j (Aj ((aA.length+Bu.aX ls j:Nat):Int))=ae (Bu.ju ls aA.length p.steps.length (j+1)):=by
    rw[←Gd,Bu.jk _ _ _ _ (by omega)]
   rw[z5]at L;have hs:=Aq (z.dE b (by decide) j (Aj ((aA.length+Bu.aX ls j:Nat):Int)));have hK:=Aq (H.kz (g:=w.heap.size+1) (by omega) hB j (Aj ((aA.length+Bu.aX ls j:Nat):Int)));have hb:=Aq (Ci S b (by decide) j (Aj ((aA.length+Bu.aX ls j:Nat):Int)));have z0:=Aq (b2.dE (p:=⟨w.heap.size+1,j,none⟩) (b2.dF b (by decide)) (Aj ((aA.length+Bu.aX ls j:Nat):Int)));have z6:=H.below.size;have d8:=z.aG.lt;have b0:=b.lt;have e9:sg<wr.heap.size:=c4;have h6:=Aq V;have v8:=Aq x2;have g1:=Aq (show (Bu.aX ls (j+1))=Bu.aX ls j+_ from v9);have HS:=Aq f;have g5:aA.length+Bu.aX ls j+(Bu.bD es (op,x) (aC+hi) loops).length≤1000000:=by omega
   generalize hN:aA.length+Bu.aX ls j=N at *;have HN:=Aq hN;have g9:(j:Int)<p.steps.length:=by omega
   clear l S z H b2 b z5 y0 v9 x2 y4 V f ga hrel hN G;have E:=Aq (hs.o.alloc (.cells #[Aj op,Aj x,Aj hi,Aj (go:Int)] 145));have I:=Aq (hK.o.alloc (by simp[World.setCell];omega) (.cells #[Aj op,Aj x,Aj hi,Aj (go:Int)] 145));have R:=Aq (L.o.alloc (.cells #[Aj op,Aj x,Aj hi,Aj (go:Int)] 145));have Y:=Aq (hb.o.alloc (.cells #[Aj op,Aj x,Aj hi,Aj (go:Int)] 145));have a2:=Aq (z0.o.alloc (.cells #[Aj op,Aj x,Aj hi,Aj (go:Int)] 145));have v2:w.heap.size≤((wr.setCell ⟨w.heap.size+1,j,none⟩ (Aj (N:Int))).alloc (.cells #[Aj op,Aj x,Aj hi,Aj (go:Int)] 145)).heap.size∧wr.heap.size<((wr.setCell ⟨w.heap.size+1,j,none⟩ (Aj (N:Int))).alloc (.cells #[Aj op,Aj x,Aj hi,Aj (go:Int)] 145)).heap.size∧bb<((wr.setCell ⟨w.heap.size+1,j,none⟩ (Aj (N:Int))).alloc (.cells #[Aj op,Aj x,Aj hi,Aj (go:Int)] 145)).heap.size:=⟨by simp[World.setCell];omega,by simp[World.setCell],by simp[World.setCell];omega⟩;have s0:((wr.setCell ⟨w.heap.size+1,j,none⟩ (Aj (N:Int))).alloc (.cells #[Aj op,Aj x,Aj hi,Aj (go:Int)] 145)).cell? ⟨wr.heap.size,0,none⟩=some (Aj op):=(qw _ _ _ (by simp[World.setCell])).cell 0;have s1:((wr.setCell ⟨w.heap.size+1,j,none⟩ (Aj (N:Int))).alloc (.cells #[Aj op,Aj x,Aj hi,Aj (go:Int)] 145)).cell? ⟨wr.heap.size,1,none⟩=some (Aj x):=(qw _ _ _ (by simp[World.setCell])).cell 1
   have s2:((wr.setCell ⟨w.heap.size+1,j,none⟩ (Aj (N:Int))).alloc (.cells #[Aj op,Aj x,Aj hi,Aj (go:Int)] 145)).cell? ⟨wr.heap.size,2,none⟩=some (Aj hi):=(qw _ _ _ (by simp[World.setCell])).cell 2;have s3:((wr.setCell ⟨w.heap.size+1,j,none⟩ (Aj (N:Int))).alloc (.cells #[Aj op,Aj x,Aj hi,Aj (go:Int)] 145)).cell? ⟨wr.heap.size,3,none⟩=some (Aj (go:Int)):=(qw _ _ _ (by simp[World.setCell])).cell 3;have b1:=E.o.aG.cell 1;simp only[Az,Ay,Bc]at b1;rw[h6.o]at b1;clear hs hK L hb z0;by_cases O:op=35∨op=36
   ·have U:=Bu.gT ls p.steps aA.length j HS.o;rw[show Bu.cQ op=true by unfold Bu.cQ;simpa using O,if_pos rfl,HN.o]at U;have c6:=Aq U;obtain⟨Af,cf,h7,_,_⟩:=Ba Y.o;subst h7;have h3:=Aq (show (Bu.cE ls p.steps aA.length j).length≤1000000 by unfold Bu.cE;rw[Fu];have:=Bu.iS p.steps j;omega);generalize Bu.cE ls p.steps aA.length j=fj at *;have b9:=h3.o;have hL:=Aq (Y.o.drew.alloc (.cells #[Aj (N:Int),Aj (go:Int)] 150));have z9:=Aq (E.o.drew.alloc (.cells #[Aj (N:Int),Aj (go:Int)] 150));have y5:=Aq (I.o.drew.alloc (by show B≤((wr.setCell ⟨w.heap.size+1,j,none⟩ (Aj (N:Int))).alloc (.cells #[Aj op,Aj x,Aj hi,Aj (go:Int)] 145)).heap.size;omega) (.cells #[Aj (N:Int),Aj (go:Int)] 150));have x9:=Aq (R.o.drew.alloc (.cells #[Aj (N:Int),Aj (go:Int)] 150));have x7:=Aq (a2.o.drew.alloc (.cells #[Aj (N:Int),Aj (go:Int)] 150));have y3:=Aq (((qw _ _ _ (by simp[World.setCell]):aH ((wr.setCell ⟨w.heap.size+1,j,none⟩ (Aj (N:Int))).alloc (.cells #[Aj op,Aj x,Aj hi,Aj (go:Int)] 145)) wr.heap.size 145 #[Aj op,Aj x,Aj hi,Aj (go:Int)]).drew).alloc (.cells #[Aj (N:Int),Aj (go:Int)] 150))
    have z1:Hid (aE (((wr.setCell ⟨w.heap.size+1,j,none⟩ (Aj (N:Int))).alloc (.cells #[Aj op,Aj x,Aj hi,Aj (go:Int)] 145)).drew.alloc (.cells #[Aj (N:Int),Aj (go:Int)] 150)) (((wr.setCell ⟨w.heap.size+1,j,none⟩ (Aj (N:Int))).alloc (.cells #[Aj op,Aj x,Aj hi,Aj (go:Int)] 145)).drew.alloc (.cells #[Aj (N:Int),Aj (go:Int)] 150)).heap.size 2 (some ⟨wr.heap.size+1,0,none⟩) 1 [Aj (N:Int),Aj (go:Int)]):=Aq (qB (cs:=[Aj (N:Int),Aj (go:Int)]) (qw _ 150 _ (by show wr.heap.size+1=((wr.setCell ⟨w.heap.size+1,j,none⟩ (Aj (N:Int))).alloc (.cells #[Aj op,Aj x,Aj hi,Aj (go:Int)] 145)).heap.size;simp[World.setCell])) 2 1 rfl);have y9:w.heap.size≤(((wr.setCell ⟨w.heap.size+1,j,none⟩ (Aj (N:Int))).alloc (.cells #[Aj op,Aj x,Aj hi,Aj (go:Int)] 145)).drew.alloc (.cells #[Aj (N:Int),Aj (go:Int)] 150)).heap.size:=Ex v2.1 (by simp[World.drew]);clear U h3 Y E I R a2;have d4:(op==35)=true∨((op==35)=false∧(op==36)=true):=by
     rcases O with x6|x6
     ·exact .inl (by simp[x6])
     ·exact .inr (by simp[x6])
    clear O;rcases d4 with v5|⟨v5,e0⟩
    all_goals
     go_wp2_with fail
     have Q:((wr.setCell ⟨w.heap.size+1,j,none⟩ (Aj (N:Int))).alloc (.cells #[Aj op,Aj x,Aj hi,Aj (go:Int)] 145)).drew.cell? ⟨bb,1,none⟩=some (.slice Ac N cc)∧((wr.setCell ⟨w.heap.size+1,j,none⟩ (Aj (N:Int))).alloc (.cells #[Aj op,Aj x,Aj hi,Aj (go:Int)] 145)).drew.cell? ⟨wr.heap.size,3,none⟩=some (Aj (go:Int)):=⟨b1,s3⟩;refine Cr [9,10] [4,7] [] 12 (fun wq:World=>wq.cell? ⟨bb,1,none⟩=some (.slice Ac N cc)∧wq.cell? ⟨wr.heap.size,3,none⟩=some (Aj (go:Int))) ?_
     iterate 9 (first|refine Be ?_|refine Bj Q ?_)
     refine Bi fun K Z=>?_;go_simp
     refine Bh Z ?_;clear Z K;refine Bi fun K Z=>?_
     refine Hf _ rfl (.tmp 45) (.tmp 54) _ rfl 150 i0 _ 2 16 Tryz.underlying148 c0 y8 z4 a0 rfl (by decide) w.heap.size _ _ _ rfl hL.o y9 _ _ 1 1 [Aj (N:Int),Aj (go:Int)] rfl z1.o (by simp[Value.oneCell']) (by unfold maxLen;omega) (by omega) ?_;intro v' W3 u6 hg e3;have E:=Aq (z9.o.grown hL.o hg (by decide));have I:=Aq (y5.o.grown hg hB fun r e=>(Bf hL.o e).1);have R:=Aq (Ct x9.o hg (Dl x9.o hL.o (by decide)));have Y:Hid (W3.ownsRow w.heap.size 150 2 v' (Bu.cE ls p.steps aA.length (j+1)).length (ir (Bu.cE ls p.steps aA.length (j+1)))):=Aq (by
      rw[c6.o]
      simpa [ir]using u6)
     have a2:=Aq (x7.o.grown hg fun e=>by
      obtain⟨_,_,_,d⟩:=Bf hL.o e.symm;exact x7.o.dF d (by decide) rfl)
     have h5:=y3.o.grown hg fun e=>by
      obtain⟨_,_,_,d⟩:=Bf hL.o e.symm;exact y3.o.dF d (by decide) rfl
     have i4:=I.o.below.size;clear u6 hg e3 z9 y5 x9 hL x7 y3 z1 s0 s1 s2 s3 b1 v2 y9;have s0:=h5.cell 0;have s1:=h5.cell 1;have s2:=h5.cell 2;simp only[Az,Ay,Bc]at s0 s1 s2;clear h5;refine Bh Z ?_;clear Z K
     iterate 1 (first|refine Be ?_|refine Bj Q ?_)
     refine Bb ?_;clear Q;go_wp2_with fail
     refine(v3.o W3 _ _ E.o (by omega) op x (aC+hi) M ⟨by omega,by omega,by omega,by omega⟩ (by rw[h6.o];omega)).mono ?_;rintro e w6⟨rfl,⟨x3,c1⟩,X⟩;have HR:Hid (EmI w B bb pv ps aA ls p.steps (some ⟨sg,y7,none⟩) c p.size (w.heap.size+1) _ (Aj ((j:Int)+1)) w6):=Aq ⟨j+1,x3,by omega,by simp,Cz R.o fun g e=>by
      obtain⟨_,_,cs,d⟩:=Bf R.o e;exact(X.aG d (by decide) (by decide)).trans d.symm,Cz Y.o fun g e=>by
      obtain⟨_,_,cs,d⟩:=Bf Y.o e;exact(X.aG d (by decide) (by decide)).trans d.symm,by
      rw[v8.o,←nz];exact c1,I.o.trans X,X.aG a2.o (by decide) (by decide)⟩
     clear c1 X E I R Y a2;go_wp2;go_roundw
     case rel=>exact HR.o
     case measure=>simp[intOf];omega
   ·have c5:¬ op=35:=fun e=>O (.inl e)
    have d7:¬ op=36:=fun e=>O (.inr e)
    have U:=Bu.gT ls p.steps aA.length j HS.o;rw[show Bu.cQ op=false by unfold Bu.cQ;simpa using O]at U;simp only[pC,if_false,oC]at U;rw[←U]at Y;have v5:(op==35)=false:=by simpa using c5
    have e0:(op==36)=false:=by simpa using d7
    clear U O s0 s1 s2 s3 b1;go_wp2_with fail
    generalize ((wr.setCell ⟨w.heap.size+1,j,none⟩ (Aj (N:Int))).alloc (.cells #[Aj op,Aj x,Aj hi,Aj (go:Int)] 145))=W3 at *;refine(v3.o W3 _ _ E.o (by omega) op x (aC+hi) M ⟨by omega,by omega,by omega,by omega⟩ (by rw[h6.o];omega)).mono ?_;rintro e w6⟨rfl,⟨x3,c1⟩,X⟩;have HR:Hid (EmI w B bb pv ps aA ls p.steps (some ⟨sg,y7,none⟩) c p.size (w.heap.size+1) _ (Aj ((j:Int)+1)) w6):=Aq ⟨j+1,x3,by omega,by simp,Cz R.o fun g e=>by
     obtain⟨_,_,cs,d⟩:=Bf R.o e;exact(X.aG d (by decide) (by decide)).trans d.symm,Cz Y.o fun g e=>by
     obtain⟨_,_,cs,d⟩:=Bf Y.o e;exact(X.aG d (by decide) (by decide)).trans d.symm,by
     rw[v8.o,←nz];exact c1,I.o.trans X,X.aG a2.o (by decide) (by decide)⟩
    clear c1 X E I R Y a2;go_wp2;go_roundw
    case rel=>exact HR.o
    case measure=>simp[intOf];omega
  ·obtain rfl:j=p.steps.length:=by omega
   clear hj;have h0:(ls.take p.steps.length).flatten=(Bu.fl ls p.steps fun k=>((Bu.az p.steps p.steps.length).take 0).contains k).flatten:=by
    rw[oy (by have:=h4.o;omega)];simp only[List.take_zero,List.contains_nil];rw[Bu.iZ _ _ h4.o]
   have V:(aA++(ls.take p.steps.length).flatten).length=aA.length+Bu.aX ls p.steps.length:=by rw[Bz];rfl
   obtain⟨Ac,cc,x8,b3,_⟩:=Ba z.aA;subst x8;have C:=z.aG.cell 1;have p0:=b2.cell 0;simp only[Az,Ay,Bc]at C p0;rw[V]at C;obtain⟨_,_,a1,b⟩:=Bf l (g:=w.heap.size+1) rfl;have b4:=b.frozen p.steps.length;obtain⟨g',c',G,_,_,_,D⟩:=Ce l (by omega);have b8:=D p.steps.length _ (Ck (Bg (by rw[Bu.gj];omega)));obtain⟨rfl,rfl⟩:w.heap.size+1=g'∧p.steps.length+1=c':=by simpa using G
   have L:=Aq (Dz l (g:=w.heap.size+1) rfl (j:=p.steps.length) (by rw[Dc,Bu.gj];omega) (Aj ((aA.length+Bu.aX ls p.steps.length:Nat):Int)));rw[←Gd,Bu.jk _ _ _ _ (by omega)]at L;have hs:=Aq (z.dE b (by decide) p.steps.length (Aj ((aA.length+Bu.aX ls p.steps.length:Nat):Int)));rw[h0]at hs;have hK:=Aq (H.kz (g:=w.heap.size+1) (by omega) hB p.steps.length (Aj ((aA.length+Bu.aX ls p.steps.length:Nat):Int)));have hb:=Aq (Ci S b (by decide) p.steps.length (Aj ((aA.length+Bu.aX ls p.steps.length:Nat):Int)));have y4:=Bu.fX ls p.steps.length;have z6:=H.below.size;have d8:=z.aG.lt;have b0:=b.lt;have e6:aA.length+Bu.aX ls p.steps.length≤1000000:=by omega
   have h3:=Aq (show (Bu.cE ls p.steps aA.length p.steps.length).length≤1000000 by unfold Bu.cE;rw[Fu];have:=Bu.iS p.steps p.steps.length;omega);obtain⟨Af,cf,h7,_,_⟩:=Ba hb.o;subst h7;have u4:Hid (EmJ w B bb pv ps aA ls p.steps (w.heap.size+1) (.slice Af (Bu.cE ls p.steps aA.length p.steps.length).length cf) (Aj 0) (wr.setCell ⟨w.heap.size+1,p.steps.length,none⟩ (Aj ((aA.length+Bu.aX ls p.steps.length:Nat):Int))).drew):=Aq ⟨0,_,by omega,rfl,L.o.drew,hb.o.drew,hs.o.drew,hK.o.drew⟩;clear h0 V l S z H b2 b y4 D G L hs hK hb;generalize aA.length+Bu.aX ls p.steps.length=N at *;generalize hF:(Bu.cE ls p.steps aA.length p.steps.length).length=F at *;have b9:=h3.o;have f3:(p.steps.length:Int)<(p.steps.length:Int)+1:=by omega
   go_wp2_with fail
   have Q:wr.drew.cell? ⟨w.heap.size,0,none⟩=some (.slice A p.steps.length c)∧wr.drew.cell? ⟨bb,1,none⟩=some (.slice Ac N cc):=⟨p0,C⟩;refine Cr [10] [2,7] [] 11 (fun wq:World=>wq.cell? ⟨w.heap.size,0,none⟩=some (.slice A p.steps.length c)∧wq.cell? ⟨bb,1,none⟩=some (.slice Ac N cc)) ?_
   iterate 10 (first|refine Be ?_|refine Bj Q ?_)
   refine Bi fun K Z=>?_;go_simp
   refine Bh Z ?_;clear Z K;refine Bb ?_;clear Q;go_wp2_with fail
   go_loopw [78] (fun i wr=>EmJ w B bb pv ps aA ls p.steps (w.heap.size+1) (.slice Af F cf) i wr) (fun i _=>F-(intOf i).toNat)
   case atStart=>exact u4.o
   case round =>
    clear u4;obtain⟨m,g6,hm,rfl,l,S,z,H⟩:=hrel;rw[hF]at hm;by_cases z2:m<F
    ·obtain⟨q,hq⟩:∃q,(Bu.az p.steps p.steps.length)[m]?=some q:=⟨_,Bg (by unfold Bu.cE at hF;rw[Fu]at hF;omega)⟩;obtain⟨g3,s,f,u8⟩:=(Bu.gF p.steps).1 (Bx hq);obtain⟨r,hr,U⟩:=a4.o _ _ f u8;have i1:=(v7.o _ (Bx f)).2.2.2;have f2:=Bu.fX ls s.go;have z7:(Bu.cE ls p.steps aA.length p.steps.length)[m]?=some (aA.length+Bu.aX ls q,s.go):=by
      unfold Bu.cE;rw[Cc,hq];simp[Bn,f]
     obtain⟨M,hS⟩:=Bu.kr ls p.steps h4.o aA m q hq r _ hr U;obtain⟨gf,e2,x4,_,_,f9,y1⟩:=Ce S (by omega);obtain⟨x0,x1⟩:=Ms z7;have f0:=y1 _ _ x0;have f1:=y1 _ _ x1;have u9:=Bu.mx ls aA.length p.steps.length (p.steps.length+1) s.go (by omega) Aw;obtain⟨g',c',G,_,_,a8,D⟩:=Ce l (by omega);have t0:=D _ _ (Ck u9);obtain⟨rfl,rfl⟩:w.heap.size+1=g'∧p.steps.length+1=c':=by simpa using G
     have V:=(aS.1 M).1;obtain⟨J,ca,a3,i3,_,f8,_⟩:=Ce z.aA (Nat.lt_of_le_of_lt (By _) V);subst a3;have v4:=Bu.k_ ls p.steps h4.o (fun k=>((Bu.az p.steps p.steps.length).take m).contains k);have c9:(aA++(Bu.fl ls p.steps fun k=>((Bu.az p.steps p.steps.length).take m).contains k).flatten).length=aA.length+ls.flatten.length:=by rw[Bz,v4]
     have c3:(Af=some ⟨gf,0,none⟩)∧cf=e2:=by
      rw[hF]at x4
      simpa using x4
     obtain⟨rfl,rfl⟩:=c3;generalize i2:aA.length+Bu.aX ls q=y at *;generalize x2:aA.length+Bu.aX ls s.go=P at *;have hv:((Bu.aX ls s.go:Nat):Int)-(Bu.aX ls q:Nat)-1=(P:Int)-y-1:=by omega
     rw[hv]at hS;have u0:IntKind.i64.wrap ((P:Int)-y)=P-y:=Do _ (by omega);have f4:IntKind.i64.wrap ((P:Int)-y-1)=P-y-1:=Do _ (by omega);have z6:=H.below.size;have h9:=(z.alloc (.cells #[Aj (y:Int),Aj (s.go:Int)] 150)).drew;obtain⟨h8,u3⟩:=z.jF (g:=J) rfl M ((P:Int)-y-1);obtain⟨_,_,e7,x5⟩:=Bf z.aA (g:=J) rfl;rw[hS]at h8;obtain⟨_,_,g4,b⟩:=Bf h9.aA (g:=J) rfl;have g2:=b.frozen (y*5+4);have z8:=h9.aA;have C:=z.aG.cell 1;simp only[Az,Ay,Bc]at C;have e4:∃u,(wr.alloc (.cells #[Aj (y:Int),Aj (s.go:Int)] 150)).cell? ⟨J,y*5+4,none⟩=some u:=by
      obtain⟨_,_,e,_,_,_,a6⟩:=Ce z8 (Nat.lt_of_le_of_lt (By _) V);simp only[Value.slice.injEq,Bv,Addr.mk.injEq,and_true,true_and]at e;obtain⟨rfl,rfl⟩:=e;exact⟨_,a6 _ _ (Bg (by rw[Kn];omega))⟩
     obtain⟨ua,e8⟩:=e4;have HR:Hid (EmJ w B bb pv ps aA ls p.steps (w.heap.size+1) (.slice (some ⟨gf,0,none⟩) F cf) (Aj ((m:Int)+1)) ((wr.setCell ⟨J,y*5+4,none⟩ (Aj ((P:Int)-y-1))).alloc (.cells #[Aj (y:Int),Aj (s.go:Int)] 150)).drew):=Aq ⟨m+1,_,by omega,by simp,((Ci l x5 (by decide) _ _).alloc _).drew,((Ci S x5 (by decide) _ _).alloc _).drew,(h8.alloc _).drew,((H.trans u3).alloc (by simp[World.setCell];omega) _).drew⟩;have u5:=z.aG.lt;generalize a5:(aA++(Bu.fl ls p.steps fun k=>((Bu.az p.steps p.steps.length).take m).contains k).flatten).length=LL at *;have y8:(m:Int)<F:=by omega
     have z4:(s.go:Int)<(p.steps.length:Int)+1:=by omega
     have a0:(y:Int)<LL:=by omega
     have g8:bb<wr.heap.size:=u5;have t1:=(Cb wr (.cells #[Aj (y:Int),Aj (s.go:Int)] 150) ⟨w.heap.size+1,s.go,none⟩ a8).trans t0;have c2:=(Cb wr (.cells #[Aj (y:Int),Aj (s.go:Int)] 150) ⟨bb,1,none⟩ u5).trans C;have n0:(wr.alloc (.cells #[Aj (y:Int),Aj (s.go:Int)] 150)).cell? ⟨wr.heap.size,0,none⟩=some (Aj (y:Int)):=(qv wr _ _).cell 0;have n1:(wr.alloc (.cells #[Aj (y:Int),Aj (s.go:Int)] 150)).cell? ⟨wr.heap.size,1,none⟩=some (Aj (s.go:Int)):=(qv wr _ _).cell 1;clear c9 V a5 z H l S h9 h8 u3 x5 z8 M hS U hr z7 y1 D u9 x4 G hq f v4 x0 x1 b u8;go_wp2_with fail
     have Q:(wr.alloc (.cells #[Aj (y:Int),Aj (s.go:Int)] 150)).drew.cell? ⟨bb,1,none⟩=some (.slice (some ⟨J,0,none⟩) LL ca)∧(wr.alloc (.cells #[Aj (y:Int),Aj (s.go:Int)] 150)).drew.cell? ⟨wr.heap.size,0,none⟩=some (Aj (y:Int))∧(wr.alloc (.cells #[Aj (y:Int),Aj (s.go:Int)] 150)).drew.cell? ⟨wr.heap.size,1,none⟩=some (Aj (s.go:Int))∧(wr.alloc (.cells #[Aj (y:Int),Aj (s.go:Int)] 150)).drew.cell? ⟨w.heap.size+1,s.go,none⟩=some (Aj (P:Int)):=⟨c2,n0,n1,t1⟩;refine Cr [17] [3,5,8,10,12] [] 18 (fun wq:World=>wq.cell? ⟨bb,1,none⟩=some (.slice (some ⟨J,0,none⟩) LL ca)∧wq.cell? ⟨wr.heap.size,0,none⟩=some (Aj (y:Int))∧wq.cell? ⟨wr.heap.size,1,none⟩=some (Aj (s.go:Int))∧wq.cell? ⟨w.heap.size+1,s.go,none⟩=some (Aj (P:Int))) ?_
     iterate 17 (first|refine Be ?_|refine Bj Q ?_)
     refine Bi fun K Z=>?_;go_simp
     refine Bh Z ?_;clear Z K;refine Bb ?_;clear Q;go_wp2_with fail
     go_roundw
     case rel=>exact HR.o
     case measure=>simp[intOf];omega
    ·have v0:(Bu.az p.steps p.steps.length).length≤m:=by
      unfold Bu.cE at hF;rw[Fu]at hF;omega
     rw[oy v0,e1.o]at z;have HR:Hid (cG w B bb pv ps (aA++T) (.returned (.tuple #[])) wr):=Aq ⟨rfl,⟨_,z⟩,H⟩;obtain rfl:m=F:=by omega
     clear z H l S v0;go_wp2_with fail
     go_end0;exact HR.o
end
end Go.Proofs.YtnhebmgibiomnaaGreat
