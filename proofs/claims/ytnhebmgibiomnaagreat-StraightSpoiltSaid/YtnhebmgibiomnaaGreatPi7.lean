import Derived.Test.YtnhebmgibiomnaaGreatPi6
set_option linter.unusedVariables false
set_option linter.unusedSimpArgs false
set_option maxRecDepth 100000
set_option maxHeartbeats 8000000
namespace Go.Proofs.YtnhebmgibiomnaaGreat
section
open Go.RowKit Mc
theorem Gv (w:World)(mb:Nat)(O:Nat→Prop)(L:bd)(s:St)(h:ag w mb O L s)(p:Int) :
  Calls Tryz.prog 252 #[.pointer (some ⟨mb,0,none⟩),Aj p] w fun e w'=>e=.returned (.bool (cO s p))∧w=w':=by
 obtain⟨A,c,y,v,u⟩:=h.cu.form;have z:=h.aG.cell 3;rw[h.c.c3,y]at z;have r:=h.ok.c_;have x:Hid (cO s p=decide (0≤p∧p<s.aF.length)):=Aq rfl;clear h y v u;by_cases k:0≤p
 ·by_cases q:p<s.aF.length
  ·go_enter Tryz.func252,Tryz.ntmps252;go_wp2;go_ret;exact⟨Cw (by rw[x.o];simp;omega),rfl⟩
  ·go_enter Tryz.func252,Tryz.ntmps252;go_wp2;go_ret;exact⟨Cw (by rw[x.o];simp;omega),rfl⟩
 ·go_enter Tryz.func252,Tryz.ntmps252;go_wp2;go_ret;exact⟨Cw (by rw[x.o];simp;omega),rfl⟩
theorem Eu {l:List (Int×Int)} {i:Nat} {v:Int×Int} (h:l[i]?=some v) (axis:Int):(bu l)[i*2+(if axis=1 then 1 else 0)]?=some (Aj (Cg axis v)):=by
 have:=Gf h;unfold Cg;split
 ·rw[oN];exact this.2
 ·rw[oN];exact this.1
def Mv (s:St) (l:List (Int×Int)) (x:Int):Int:=if cO s x then Cg s.look (l.getD x.toNat (0,0)) else 0
theorem Zbw {s:St} {l:List (Int×Int)} {i:Nat} {v:Int×Int} (h:cO s i=true) (x:l[i]?=some v):Mv s l i=Cg s.look v:=by
 unfold Mv;rw[if_pos h,Da,Bo,x];rfl
theorem Zge {s:St} {l:List (Int×Int)} {x:Int} (h:¬ cO s x=true):Mv s l x=0:=by unfold Mv;rw[if_neg h]
theorem Qi (w:World)(mb:Nat)(O:Nat→Prop)(L:bd)(s:St)(h:ag w mb O L s)(x:Int)(r:List Int)(P:s.stack=x::r)(A:Option Addr) (l:List (Int×Int)) (c:Nat) (U:l.length=s.aF.length)
  (F:Row w O 76 2 (.slice A l.length c) l.length (bu l)) :
  Calls Tryz.prog 205 #[.pointer (some ⟨mb,0,none⟩),.slice A l.length c] w (aw w mb O (push (Mv s l x) { s with stack:=r })):=by
 have H:=Aq h;have E:=Aq P;have hl:=h.ok.df;rw[P,Bp]at hl;have hv:=h.ok.c_;rw[←U]at hv;have L':=h.ok.look;have C:=Aq F;have T:=Aq U;clear h P F U;by_cases q:cO s x=true
 ·have X:=Aq q;have p:=q;simp only[cO,decide_eq_true_eq]at p;rw[←T.o]at p;obtain⟨i,rfl⟩:∃i:Nat,x=i:=⟨x.toNat,by omega⟩;have ht:i<l.length:=by omega
  obtain⟨g,c',a,_,_,N,_⟩:=C.o.aL (by omega)
  injection a with a _ Y
  subst a Y;obtain⟨v,a⟩:∃v,l[i]?=some v:=⟨_,Bf ht⟩;have G:=Aq a;clear q p a N;go_enter Tryz.func205,Tryz.ntmps205;go_wp2_with fail
  refine(Ec w mb O L s H.o _ r E.o _).mono ?_;rintro e w'⟨rfl,y,z⟩;obtain⟨f,b⟩:=y.ma;have u:=Aq b;have Z:=Aq y;have I:=y.lt;have n:=z.cell 0;have J:=z.lt;have M:=z.frozen 0;simp only[Az,Ay]at n;clear y b z;go_wp2_with fail
  refine(Gv w' mb O f _ u.o _).mono ?_;rintro e B⟨rfl,rfl⟩;have m:cO { s with stack:=r } (i:Int)=true:=X.o;rw[m];clear m;go_wp2_with fail
  have dH:=u.o.aG.cell 42;rw[u.o.c.dH]at dH;dsimp only at dH;obtain⟨g2,c2,k,_,_,hO,hp,Y,W⟩:=(Z.o.row (by decide) C.o).aL (by omega)
  injection k with k
  injection k with k
  injection k with k
  subst k;have D:=Y _ _ (Eu G.o s.look);clear Y W;generalize R:(if s.look=1 then 1 else 0:Nat)=d at D;have HD:=Aq R;clear R;have Q:w'.drew.cell? ⟨mb,42,none⟩=some (Aj s.look)∧w'.drew.cell? ⟨w.heap.size,0,none⟩=some (Aj i)∧w'.drew.cell? ⟨g,i*2+d,none⟩=some (Aj (Cg s.look v)):=⟨dH,n,D⟩;refine Cv [7] [1,6,9] [] 11 (fun w':World=>w'.cell? ⟨mb,42,none⟩=some (Aj s.look)∧w'.cell? ⟨w.heap.size,0,none⟩=some (Aj i)∧w'.cell? ⟨g,i*2+d,none⟩=some (Aj (Cg s.look v))) ?_;refine Be ?_;refine Bj Q ?_
  iterate 4 (refine Be ?_)
  refine Bj Q ?_;refine Bi fun K S=>?_;go_simp
  refine(Cy _ _ _ _).mono ?_;rintro e B⟨rfl,rfl⟩;rw[HD.o];dsimp only;refine Bh S ?_;clear S K;refine Be ?_;refine Bj Q ?_;refine Be ?_;refine Bb ?_;have HM:=Aq u.o.drew;have hM:=Aq Z.o.fr.drew;go_wp2_with fail
  refine(Eh w'.drew mb O f _ HM.o _ (by simp only;omega)).mono ?_;intro e w9 j;have V:=Aq (j.bQ hM.o);obtain⟨rfl,_⟩:=j;go_wp2;go_end0;rw[Zbw X.o G.o];exact V.o
 ·have X:=Aq q;have p:cO s x=false:=by simpa using q
  have hx:=Aq p;clear q p;go_enter Tryz.func205,Tryz.ntmps205;go_wp2_with fail
  refine(Ec w mb O L s H.o _ r E.o _).mono ?_;rintro e w'⟨rfl,y,z⟩;obtain⟨f,b⟩:=y.ma;have u:=Aq b;have Z:=Aq y;have I:=y.lt;have n:=z.cell 0;have J:=z.lt;have M:=z.frozen 0;simp only[Az,Ay]at n;clear y b z;go_wp2_with fail
  refine(Gv w' mb O f _ u.o _).mono ?_;rintro e B⟨rfl,rfl⟩;have m:cO { s with stack:=r } x=false:=hx.o;rw[m];clear m;go_wp2_with fail
  refine(Eh w' mb O f _ u.o _ (by simp only;omega)).mono ?_;intro e w9 j;have V:=Aq (j.bQ Z.o.fr);obtain⟨rfl,_⟩:=j;go_wp2;go_end0;rw[Zge X.o];exact V.o
theorem Zgl (w:World)(mb:Nat)(O:Nat→Prop)(L:bd)(s:St)(h:ag w mb O L s)(a x:Int)(r:List Int)(v:s.stack=x::r) :
  Calls Tryz.prog 204 #[.pointer (some ⟨mb,0,none⟩),Aj a] w (aw w mb O (push (Mv s s.aF x) { s with stack:=r })):=by
 obtain⟨A,c,y,p,b⟩:=h.cu.form;have q:=h.aG.cell 3;rw[h.c.c3,y]at q;have z:=h.cu;rw[y]at z;have k:=Aq (Qi w mb O L s h x r v A s.aF c rfl z);clear h v y p b z;go_enter Tryz.func204,Tryz.ntmps204;go_wp2_with fail
 refine k.o.mono ?_;intro e f u;have d:=Aq u;obtain⟨rfl,_⟩:=u;go_wp2;go_end0;exact d.o
theorem Zfq (w:World)(mb:Nat)(O:Nat→Prop)(L:bd)(s:St)(h:ag w mb O L s)(a x:Int)(r:List Int)(v:s.stack=x::r) :
  Calls Tryz.prog 206 #[.pointer (some ⟨mb,0,none⟩),Aj a] w (aw w mb O (push (Mv s s.aT x) { s with stack:=r })):=by
 obtain⟨A,c,y,d,b⟩:=h.og.form;have q:=h.aG.cell 2;rw[h.c.c2,y]at q;have z:=h.og;rw[y]at z;have p:=Aq (Qi w mb O L s h x r v A s.aT c h.ok.dK z);clear h v y d b z;go_enter Tryz.func206,Tryz.ntmps206;go_wp2_with fail
 refine p.o.mono ?_;intro e f u;have k:=Aq u;obtain⟨rfl,_⟩:=u;go_wp2;go_end0;exact k.o
theorem Zap:∀{l:List (Int×Int)} {i:Nat} {x:Int×Int} (_:l[i]?=some x) (axis v:Int),bu (l.set i (fm axis x v))=(bu l).set (i*2+(if axis=1 then 1 else 0)) (Aj (bA v))
 |a::l,0,x,h,axis,v=>by
  simp only[Ay,Bw]at h;subst h;unfold fm;split <;> simp[bu]
 |a::l,i+1,x,h,axis,v=>by
  have y:=Zap (l:=l) (i:=i) (x:=x) h axis v;have:(bu (a::l)).set ((i+1)*2+(if axis=1 then 1 else 0)) (Aj (bA v))=Aj a.1::Aj a.2::(bu l).set (i*2+(if axis=1 then 1 else 0)) (Aj (bA v)):=by
   rw[show (i+1)*2+(if axis=1 then 1 else 0)=(i*2+(if axis=1 then 1 else 0))+1+1 by omega];rfl
  rw[this,←y];rfl
 | [],i,x,h,_,_=>by simp at h
section
variable {w w' : World} {mb : Nat} {O : Nat → Prop} {L : bd} {s : St}
theorem Mc.Ok.kw (h:Ok s) {l:List (Int×Int)} (y:∀p∈l,bI p.1∧bI p.2) (x:l.length=s.aF.length):Ok { s with aF:=l } :=
 ⟨h.stack,h.df,h.aP,h.store,h.dQ,y,h.aT,by rw[h.dK];exact x.symm,h.aB,by rw[h.tl];exact x.symm,h.size,h.look,h.move,h.bG,h.aM,h.aD,h.fX,h.funcs,h.kJ,fun c z=>by have:=h.bH c z;simp only[x];exact this,h.eg,by rw[x];exact h.c_,h.gy,h.fW⟩
theorem Mc.Ok.jN (h:Ok s){l:List Int}(y:∀t∈l,0≤t∧t≤3)(x:l.length=s.aB.length):Ok { s with aB:=l } :=
 ⟨h.stack,h.df,h.aP,h.store,h.dQ,h.aF,h.aT,h.dK,y,by rw[←h.tl];exact x,h.size,h.look,h.move,h.bG,h.aM,h.aD,h.fX,h.funcs,h.kJ,h.bH,h.eg,h.c_,h.gy,h.fW⟩
theorem to_k (axis:Int)(p:Int×Int)(v:Int)(h:bI p.1∧bI p.2):bI (fm axis p v).1∧bI (fm axis p v).2:=by
 unfold fm;split
 ·exact⟨h.1,Fq v⟩
 ·exact⟨Fq v,h.2⟩
theorem ag.jC (h:ag w mb O L s){g m c:Nat} (q:L.cu=.slice (some ⟨g,0,none⟩) m c) {i:Nat} {x:Int×Int} (hi:s.aF[i]?=some x) (axis v:Int):ag (w.setCell ⟨g,i*2+(if axis=1 then 1 else 0),none⟩ (Aj (bA v))) mb O L { s with aF:=s.aF.set i (fm axis x v) } := by
 have bU:L.cu.ownBlock=some g:=by rw[q];rfl
 have u:g≠mb:=h.cu.cD h.aG (by decide) bU;have r:=(aS.1 hi).1;refine h.kw (by simp) ?_ (Bq _ _ _ _ u.symm) (fun k _ _ y=>Bq _ _ _ _ (fun e=>y (by rw[bU,e]))) (fun _ h=>h) (fun k y=>by have:=h.eO k y;simpa [World.setCell]using this) (h.ok.kw (fun p z=>?_) (by simp))
 ·rw[Zap hi];refine h.cu.aX bU (by rw[Ij];split <;> omega) _
 ·rcases oI z with z|rfl
  ·exact h.ok.aF p z
  ·exact to_k _ _ _ (h.ok.aF x (Bz hi))
theorem ag.kP (h:ag w mb O L s){g m c:Nat} (z:L.to=.slice (some ⟨g,0,none⟩) m c) {i:Nat} (hi:i<s.aB.length) {t:Int} (v:0≤t∧t≤3):ag (w.setCell ⟨g,i,none⟩ (Aj t)) mb O L { s with aB:=s.aB.set i t } := by
 have bU:L.to.ownBlock=some g:=by rw[z];rfl
 have u:g≠mb:=h.to.cD h.aG (by decide) bU;refine h.jN (by simp) ?_ (Bq _ _ _ _ u.symm) (fun k _ _ y=>Bq _ _ _ _ (fun e=>y (by rw[bU,e]))) (fun _ h=>h) (fun k y=>by have:=h.eO k y;simpa [World.setCell]using this) (h.ok.jN (fun p x=>?_) (by simp))
 ·rw[Gj];exact h.to.aX bU (by rw[Dg];exact hi) _
 ·rcases oI x with x|rfl
  ·exact h.ok.aB p x
  ·exact v
end
def Yt (axis t:Int):Int:=if bit axis t then t else t+(axis+1)
theorem Zh {axis t:Int}(y:0≤axis∧axis≤1)(z:0≤t∧t≤3):0≤Yt axis t∧Yt axis t≤3:=by
 obtain⟨p,v⟩:=y;obtain⟨q,k⟩:=z;have x:axis=0∨axis=1:=by omega
 have u:t=0∨t=1∨t=2∨t=3:=by omega
 rcases x with rfl|rfl <;> rcases u with rfl|rfl|rfl|rfl <;> decide
theorem Ry {axis t:Int}(y:0≤axis∧axis≤1)(z:0≤t∧t≤3):bits BinOp.or IntKind.i64 t (axis+1)=Yt axis t:=by
 obtain⟨p,v⟩:=y;obtain⟨q,k⟩:=z;have x:axis=0∨axis=1:=by omega
 have u:t=0∨t=1∨t=2∨t=3:=by omega
 rcases x with rfl|rfl <;> rcases u with rfl|rfl|rfl|rfl <;> rfl
theorem Sx (w:World)(mb:Nat)(O:Nat→Prop)(L:bd)(s:St)(h:ag w mb O L s)(p:Nat)(axis v:Int)(P:p<s.aF.length)(b:0≤axis∧axis≤1) :
  Calls Tryz.prog 254 #[.pointer (some ⟨mb,0,none⟩),Aj p,Aj axis,Aj v] w (aw w mb O (bn s p axis v)):=by
 obtain⟨x,a⟩:∃x,s.aF[p]?=some x:=⟨_,Bf P⟩;have S:p<s.aB.length:=by rw[h.ok.tl];exact P
 obtain⟨t,y⟩:∃t,s.aB[p]?=some t:=⟨_,Bf S⟩;obtain⟨g,c,u,hK,J,D,hd,R,H⟩:=h.cu.aL (by omega);have I:=R _ _ (Eu a axis);have E:=H (p*2+(if axis=1 then 1 else 0));have Q:=h.aG.cell 3;rw[h.c.c3,u]at Q;obtain⟨gt,A,r,ha,M,G,N,V,m⟩:=h.to.aL (by omega);have Z:=V _ _ (Cn y);have j:=m p;have f:=h.aG.cell 4;rw[h.c.c4,r]at f;have C:gt≠g:=fun e=>h.to.apart h.cu (by decide) g (by rw[r,e];rfl) (by rw[u];rfl)
 have hx:mb≠g:=fun e=>h.cu.cD h.aG (by decide) (show L.cu.ownBlock=some g by rw[u];rfl) e.symm
 have X:=h.jC u a axis v;have l:=X.drew.kP r S (Zh b (h.ok.aB t (Bz y)));have U:Fr O w ((w.setCell ⟨g,p*2+(if axis=1 then 1 else 0),none⟩ (Aj (bA v))).drew.setCell ⟨gt,p,none⟩ (Aj (Yt axis t))):=((qF O w).setCell (.inl D) _).drew.setCell (.inl G) _;have n:{ s with aF:=s.aF.set p (fm axis x v),aB:=s.aB.set p (Yt axis t) } = bn s p axis v:=by
  unfold bn Yt;rw[Bo,Bo,a,y];rfl
 have HP:Hid (aw w mb O (bn s p axis v) (.returned (.tuple #[])) ((w.setCell ⟨g,p*2+(if axis=1 then 1 else 0),none⟩ (Aj (bA v))).drew.setCell ⟨gt,p,none⟩ (Aj (Yt axis t)))):=Aq (by rw[←n];exact .dE l U);have F:=h.ok.aB t (Bz y);have c4:=h.ok.c_;have B:=h.ok.tl;have ht:s.aB.length≤1000000:=by omega
 have _hmbl:=h.aG.lt;clear h X l U n R H V m u r a y B J M;generalize i:(if axis=1 then 1 else 0:Nat)=d at *;have T:=Aq i;clear i;go_enter Tryz.func254,Tryz.ntmps254;go_wp2_with fail
 refine(Cy _ _ _ _).mono ?_;rintro e Y⟨rfl,rfl⟩;rw[T.o];go_wp2_with fail
 refine(Iz _ _).mono ?_;rintro e Y⟨rfl,rfl⟩;go_wp2_with fail
 have q:(w.setCell ⟨g,p*2+d,none⟩ (Aj (bA v))).drew.cell? ⟨mb,4,none⟩=some (.slice (some ⟨gt,0,none⟩) s.aB.length A)∧(w.setCell ⟨g,p*2+d,none⟩ (Aj (bA v))).drew.cell? ⟨gt,p,none⟩=some (Aj t) :=
  ⟨(ol _ _ _ _ (fun e=>by injection e with e;omega)).trans f,(ol _ _ _ _ (fun e=>by injection e with e;omega)).trans Z⟩
 have hF:(w.setCell ⟨g,p*2+d,none⟩ (Aj (bA v))).drew.frozen? ⟨gt,p,none⟩=false:=((qF (fun k=>k=g) w).setCell (p:=⟨g,p*2+d,none⟩) (.inl rfl) _).drew.frozen (p:=⟨gt,p,none⟩) N C |>.trans j;clear I E Q f Z j;generalize (w.setCell ⟨g,p*2+d,none⟩ (Aj (bA v)))=W at *;have hv:=q.1;have hS:=q.2;refine Cv [9,12] [4,7] [9] 13 (fun w':World=>w'.cell? ⟨mb,4,none⟩=some (.slice (some ⟨gt,0,none⟩) s.aB.length A)∧w'.cell? ⟨gt,p,none⟩=some (Aj t)) ?_
 iterate 4 (refine Be ?_)
 refine Bj q ?_;refine Be ?_;refine Be ?_;refine Bj q ?_;refine Be ?_;refine Bi fun K z=>?_;go_simp
 refine(Lz _ _ b.1 b.2).mono ?_;rintro e Y⟨rfl,rfl⟩;dsimp only;refine z _ _ (fun _=>q) ?_;clear z K;refine Be ?_;refine Be ?_;refine Bi fun K z=>?_;go_simp
 rw[Ry b F];refine Bh z ?_;clear z K;refine Bb ?_;go_wp2;go_end0;exact HP.o
section
variable {w w' : World} {mb : Nat} {O : Nat → Prop} {L : bd} {s : St}
theorem ag.pt (h:ag w mb O L s){p:Nat}(u:p<s.aF.length):∃g c x,L.cu=.slice (some ⟨g,0,none⟩) s.aF.length c∧s.aF.length≤c∧s.aF[p]?=some x∧g<w.heap.size∧∀axis,w.cell? ⟨g,p*2+(if axis=1 then 1 else 0),none⟩=some (Aj (Cg axis x)):=by
 obtain⟨x,y⟩:∃x,s.aF[p]?=some x:=⟨_,Bf u⟩;obtain⟨g,c,v,k,r,a,z,q,b⟩:=h.cu.aL (by omega);exact⟨g,c,x,v,k,y,z,fun axis=>q _ _ (Eu y axis)⟩
end
def Rg (s:St)(r:List Int)(p:Int)(d:Int):St:=if cO s p then bn { s with stack:=r } p.toNat s.move (Cg s.move (s.aF.getD p.toNat (0,0))+d) else { s with stack:=r }
theorem Zfv {s:St}{r:List Int}{p d:Int}(h:¬ cO s p=true):Rg s r p d = { s with stack:=r } := by unfold Rg;rw[if_neg h]
theorem Zbn {s:St}{r:List Int}{i:Nat}{d:Int}{x:Int×Int}(h:cO s i=true) (y:s.aF[i]?=some x):Rg s r i d=bn { s with stack:=r } i s.move (Cg s.move x+d):=by
 unfold Rg;rw[if_pos h,Da,De y]
theorem Zr (w:World)(mb:Nat)(O:Nat→Prop)(L:bd)(s:St)(h:ag w mb O L s)(x y:Int)(r:List Int)(Y:s.stack=y::x::r) :
  Calls Tryz.prog 208 #[.pointer (some ⟨mb,0,none⟩)] w (aw w mb O (Rg s r x y)):=by
 have H:=Aq h;have G:=Aq Y;have hx:=h.ok.stack y (by rw[Y];simp);unfold bI at hx;have hM:=h.ok.c_;by_cases b:cO s x=true
 ·have Z:=Aq b;have z:=b;simp only[cO,decide_eq_true_eq]at z;obtain⟨i,rfl⟩:∃i:Nat,x=i:=⟨x.toNat,by omega⟩;have V:i<s.aF.length:=by omega
  obtain⟨pt,P⟩:∃x,s.aF[i]?=some x:=⟨_,Bf V⟩;have hk : -2147483648≤Cg s.move pt∧Cg s.move pt≤2147483647:=by
   have:=h.ok.aF pt (Bz P);unfold Cg;split
   ·exact this.2
   ·exact this.1
  have I:=Aq P;have W:=h.ok.move;clear h Y b z P;go_enter Tryz.func208,Tryz.ntmps208;go_wp2_with fail
  refine(Dz w mb O L s H.o _ y r G.o _ _).mono ?_;rintro e w'⟨rfl,v,q,k⟩;obtain⟨n,f⟩:=v.ma;have u:=Aq f;have R:=Aq v;have M:=v.lt;have m:=q.cell 0;have N:=q.lt;have T:=q.frozen 0;have X:=k.cell 0;have J:=k.lt;have HM:=k.frozen 0;simp only[Az,Ay]at m X;clear v f q k;go_wp2_with fail
  refine(Gv w' mb O n _ u.o _).mono ?_;rintro e B⟨rfl,rfl⟩;have l:cO { s with stack:=r } (i:Int)=true:=Z.o;rw[l];clear l;go_wp2_with fail
  have dL:=u.o.aG.cell 43;rw[u.o.c.dL]at dL;dsimp only at dL;obtain⟨g,c,U,Q,ht,z,hK,C⟩:=u.o.pt (p:=i) V;dsimp only at z Q ht;obtain rfl:U=pt:=by rw[I.o]at z;injection z with z;exact z.symm
  have F:=u.o.aG.cell 3;rw[u.o.c.c3,Q]at F;have D:=C s.move;clear C z Q;generalize S:(if s.move=1 then 1 else 0:Nat)=d at D;have HD:=Aq S;clear S;have a:w'.drew.cell? ⟨mb,43,none⟩=some (Aj s.move)∧w'.drew.cell? ⟨mb,3,none⟩=some (.slice (some ⟨g,0,none⟩) s.aF.length c)∧w'.drew.cell? ⟨w.heap.size,0,none⟩=some (Aj i)∧w'.drew.cell? ⟨w.heap.size+1,0,none⟩=some (Aj y)∧w'.drew.cell? ⟨g,i*2+d,none⟩=some (Aj (Cg s.move U)):=⟨dL,F,m,X,D⟩;refine Bs (Cl [17,22]) (Bm [1,5,10,11,16,19,20]) (Bm [17]) [0,1,2,3,4,5,6,7,8,9,10,11,12,13,14,15,16,20,17,18,19,21,22] (fun w':World=>w'.cell? ⟨mb,43,none⟩=some (Aj s.move)∧w'.cell? ⟨mb,3,none⟩=some (.slice (some ⟨g,0,none⟩) s.aF.length c)∧w'.cell? ⟨w.heap.size,0,none⟩=some (Aj i)∧w'.cell? ⟨w.heap.size+1,0,none⟩=some (Aj y)∧w'.cell? ⟨g,i*2+d,none⟩=some (Aj (Cg s.move U))) (by kernel_rfl) (by kernel_rfl) (by kernel_rfl) (by kernel_rfl) ?_;refine Be ?_;refine Bj a ?_
  iterate 3 (refine Be ?_)
  refine Bj a ?_
  iterate 4 (refine Be ?_)
  refine Bj a ?_;refine Bj a ?_
  iterate 4 (refine Be ?_)
  refine Bj a ?_;refine Bj a ?_;refine Bi fun K j=>?_;go_simp
  refine(Cy _ _ _ _).mono ?_;rintro e B⟨rfl,rfl⟩;rw[HD.o];dsimp only;refine j _ _ (fun _=>a) ?_;clear j K;refine Be ?_;refine Bj a ?_;refine Be ?_;refine Bi fun K j=>?_;go_simp
  refine(Sx w'.drew mb O n _ u.o.drew i s.move _ V W).mono ?_;intro e w9 E;have HP:=Aq (E.bQ R.o.fr.drew);obtain⟨rfl,_⟩:=E;dsimp only;refine Bh j ?_;clear j K;refine Bb ?_;go_wp2;go_end0;rw[Zbn Z.o I.o];have A:=HP.o;rw[Do _ (by omega)]at A;exact A
 ·have Z:=Aq b;have z:cO s x=false:=by simpa using b
  have hS:=Aq z;clear b z h Y;go_enter Tryz.func208,Tryz.ntmps208;go_wp2_with fail
  refine(Dz w mb O L s H.o x y r G.o _ _).mono ?_;rintro e w'⟨rfl,v,q,k⟩;obtain⟨n,f⟩:=v.ma;have u:=Aq f;have R:=Aq v;have M:=v.lt;have m:=q.cell 0;have N:=q.lt;have T:=q.frozen 0;have X:=k.cell 0;have J:=k.lt;have HM:=k.frozen 0;simp only[Az,Ay]at m X;clear v f q k;go_wp2_with fail
  refine(Gv w' mb O n _ u.o _).mono ?_;rintro e B⟨rfl,rfl⟩;have l:cO { s with stack:=r } x=false:=hS.o;rw[l];clear l;go_wp2;go_end0;rw[Zfv Z.o];exact .dE u.o R.o.fr
end
section
open Go.RowKit Mc
def mP (s:St)(r:List Int)(p v:Int):St:=if s.look=s.move∧cO s p then bn { s with stack:=r } p.toNat s.move v else { s with stack:=r }
theorem Zt {s:St}{r:List Int}{p v:Int} (h:¬ (s.look=s.move∧cO s p=true)):mP s r p v = { s with stack:=r } := by unfold mP;rw[if_neg h]
theorem Zfd {s:St}{r:List Int}{i:Nat}{v:Int}(h:s.look=s.move)(x:cO s i=true):mP s r i v=bn { s with stack:=r } i s.move v:=by
 unfold mP;rw[if_pos ⟨h,x⟩,Da]
def Lk (s:St)(r:List Int)(p q:Int):St:=if s.look=s.move∧cO s p∧cO s q then bn { s with stack:=r } q.toNat s.move (Cg s.move (s.aF.getD p.toNat (0,0))) else { s with stack:=r }
theorem Nk {s:St}{r:List Int}{p q:Int} (h:¬ (s.look=s.move∧cO s p=true∧cO s q=true)):Lk s r p q = { s with stack:=r } := by unfold Lk;rw[if_neg h]
theorem Yq {s:St}{r:List Int}{i j:Nat}{x:Int×Int}(h:s.look=s.move)(y:cO s i=true)(u:cO s j=true) (z:s.aF[i]?=some x):Lk s r i j=bn { s with stack:=r } j s.move (Cg s.move x):=by
 unfold Lk;rw[if_pos ⟨h,y,u⟩,Da,Da,De z]
theorem Ip {s:St}{x:Int}(h:cO s x=true):∃i:Nat,x=i∧i<s.aF.length:=by
 simp only[cO,decide_eq_true_eq]at h;exact⟨x.toNat,by omega,by omega⟩
theorem Zka (w:World)(mb:Nat)(O:Nat→Prop)(L:bd)(s:St)(h:ag w mb O L s)(x y:Int)(r:List Int)(C:s.stack=y::x::r) :
  Calls Tryz.prog 210 #[.pointer (some ⟨mb,0,none⟩)] w (aw w mb O (mP s r x y)):=by
 have H:=Aq h;have R:=Aq C;have D:=h.ok.move;have b1:=h.ok.c_;clear h C;by_cases X:s.look=s.move
 ·have m:=Aq X;clear X;by_cases g:cO s x=true
  ·have V:=Aq g;obtain⟨i,rfl,F⟩:=Ip g;clear g;go_enter Tryz.func210,Tryz.ntmps210;go_wp2_with fail
   refine(Dz w mb O L s H.o _ y r R.o _ _).mono ?_;rintro e w'⟨rfl,v,p,k⟩;obtain⟨j,a⟩:=v.ma;have z:=Aq a;have l:=Aq v;have A:=v.lt;have q:=p.cell 0;have U:=p.lt;have P:=p.frozen 0;have d:=k.cell 0;have Z:=k.lt;have Q:=k.frozen 0;simp only[Az,Ay]at q d;clear v a p k;go_wp2_with fail
   have dH:=z.o.aG.cell 42;rw[z.o.c.dH]at dH;dsimp only at dH;have dL:=z.o.aG.cell 43;rw[z.o.c.dL]at dL;dsimp only at dL;rw[m.o]at dH;have u:w'.drew.cell? ⟨mb,42,none⟩=some (Aj s.move)∧w'.drew.cell? ⟨mb,43,none⟩=some (Aj s.move)∧w'.drew.cell? ⟨w.heap.size,0,none⟩=some (Aj i):=⟨dH,dL,q⟩;refine Cv [12] [3,7,11] [] 14 (fun w':World=>w'.cell? ⟨mb,42,none⟩=some (Aj s.move)∧w'.cell? ⟨mb,43,none⟩=some (Aj s.move)∧w'.cell? ⟨w.heap.size,0,none⟩=some (Aj i)) ?_
   iterate 3 (refine Be ?_)
   refine Bj u ?_
   iterate 3 (refine Be ?_)
   refine Bj u ?_
   iterate 3 (refine Be ?_)
   go_simp;refine Bj u ?_;refine Bi fun K b=>?_;go_simp
   refine(Gv w'.drew mb O j _ z.o.drew _).mono ?_;rintro e M⟨rfl,rfl⟩;have n:cO { s with stack:=r } (i:Int)=true:=V.o;rw[n];clear n;dsimp only;refine Bh b ?_;clear b K;refine Be ?_;refine Bb ?_;have f:=Aq z.o.drew;have Y:=Aq l.o.fr.drew;have G:w'.drew.cell? ⟨w.heap.size,0,none⟩=some (Aj i):=q;have E:w'.drew.cell? ⟨w.heap.size+1,0,none⟩=some (Aj y):=d;have I:w'.drew.cell? ⟨mb,43,none⟩=some (Aj s.move):=dL;have HM:w.heap.size<w'.drew.heap.size:=U;have ht:w.heap.size+1<w'.drew.heap.size:=Z;have hS:mb<w'.drew.heap.size:=f.o.aG.lt;clear u dH dL q d U Z P Q;generalize w'.drew=W at *;go_wp2_with fail
   have u:W.drew.cell? ⟨mb,43,none⟩=some (Aj s.move)∧W.drew.cell? ⟨w.heap.size,0,none⟩=some (Aj i)∧W.drew.cell? ⟨w.heap.size+1,0,none⟩=some (Aj y):=⟨I,G,E⟩;refine Cv [7] [1,5,6] [] 8 (fun w':World=>w'.cell? ⟨mb,43,none⟩=some (Aj s.move)∧w'.cell? ⟨w.heap.size,0,none⟩=some (Aj i)∧w'.cell? ⟨w.heap.size+1,0,none⟩=some (Aj y)) ?_;refine Be ?_;refine Bj u ?_
   iterate 3 (refine Be ?_)
   refine Bj u ?_;refine Bj u ?_;refine Bi fun K b=>?_;go_simp
   refine(Sx W.drew mb O j _ f.o.drew i s.move _ F D).mono ?_;intro e w9 B;have N:=Aq (B.bQ Y.o.drew);obtain⟨rfl,_⟩:=B;dsimp only;refine Bh b ?_;clear b K;refine Bb ?_;go_wp2;go_end0;rw[Zfd m.o V.o];exact N.o
  ·have V:=Aq g;have S:cO s x=false:=by simpa using g
   have J:=Aq S;clear g S;go_enter Tryz.func210,Tryz.ntmps210;go_wp2_with fail
   refine(Dz w mb O L s H.o x y r R.o _ _).mono ?_;rintro e w'⟨rfl,v,p,k⟩;obtain⟨j,a⟩:=v.ma;have z:=Aq a;have l:=Aq v;have A:=v.lt;have q:=p.cell 0;have U:=p.lt;have P:=p.frozen 0;have d:=k.cell 0;have Z:=k.lt;have Q:=k.frozen 0;simp only[Az,Ay]at q d;clear v a p k;go_wp2_with fail
   have dH:=z.o.aG.cell 42;rw[z.o.c.dH]at dH;dsimp only at dH;have dL:=z.o.aG.cell 43;rw[z.o.c.dL]at dL;dsimp only at dL;rw[m.o]at dH;have u:w'.drew.cell? ⟨mb,42,none⟩=some (Aj s.move)∧w'.drew.cell? ⟨mb,43,none⟩=some (Aj s.move)∧w'.drew.cell? ⟨w.heap.size,0,none⟩=some (Aj x):=⟨dH,dL,q⟩;refine Cv [12] [3,7,11] [] 14 (fun w':World=>w'.cell? ⟨mb,42,none⟩=some (Aj s.move)∧w'.cell? ⟨mb,43,none⟩=some (Aj s.move)∧w'.cell? ⟨w.heap.size,0,none⟩=some (Aj x)) ?_
   iterate 3 (refine Be ?_)
   refine Bj u ?_
   iterate 3 (refine Be ?_)
   refine Bj u ?_
   iterate 3 (refine Be ?_)
   go_simp;refine Bj u ?_;refine Bi fun K b=>?_;go_simp
   refine(Gv w'.drew mb O j _ z.o.drew _).mono ?_;rintro e M⟨rfl,rfl⟩;have n:cO { s with stack:=r } x=false:=J.o;rw[n];clear n;dsimp only;refine Bh b ?_;clear b K;refine Be ?_;refine Bb ?_;have f:=Aq z.o.drew;have Y:=Aq l.o.fr.drew;go_wp2;go_end0;rw[Zt (fun e=>V.o e.2)];exact .dE f.o Y.o
 ·have m:=Aq X;have T:(s.look==s.move)=false:=by simpa using X
  clear X;go_enter Tryz.func210,Tryz.ntmps210;go_wp2_with fail
  refine(Dz w mb O L s H.o x y r R.o _ _).mono ?_;rintro e w'⟨rfl,v,p,k⟩;obtain⟨j,a⟩:=v.ma;have z:=Aq a;have l:=Aq v;have A:=v.lt;have q:=p.cell 0;have U:=p.lt;have P:=p.frozen 0;have d:=k.cell 0;have Z:=k.lt;have Q:=k.frozen 0;simp only[Az,Ay]at q d;clear v a p k;go_wp2_with fail
  have dH:=z.o.aG.cell 42;rw[z.o.c.dH]at dH;dsimp only at dH;have dL:=z.o.aG.cell 43;rw[z.o.c.dL]at dL;dsimp only at dL;have u:w'.drew.cell? ⟨mb,42,none⟩=some (Aj s.look)∧w'.drew.cell? ⟨mb,43,none⟩=some (Aj s.move)∧w'.drew.cell? ⟨w.heap.size,0,none⟩=some (Aj x):=⟨dH,dL,q⟩;refine Cv [] [3,7] [] 14 (fun w':World=>w'.cell? ⟨mb,42,none⟩=some (Aj s.look)∧w'.cell? ⟨mb,43,none⟩=some (Aj s.move)∧w'.cell? ⟨w.heap.size,0,none⟩=some (Aj x)) ?_
  iterate 3 (refine Be ?_)
  refine Bj u ?_
  iterate 3 (refine Be ?_)
  refine Bj u ?_;refine Be ?_;refine Be ?_;go_simp;refine Ci rfl rfl rfl (by kernel_rfl) (fun _ _ _ h=>h) ?_;refine Ci rfl rfl rfl (by kernel_rfl) (fun _ _ _ h=>h) ?_;refine Ci rfl rfl rfl (by kernel_rfl) (fun _ _ _ h=>h) ?_;refine Be ?_;refine Bb ?_;have f:=Aq z.o.drew;have Y:=Aq l.o.fr.drew;go_wp2;go_end0;rw[Zt (fun e=>m.o e.1)];exact .dE f.o Y.o
theorem Zdt (w:World)(mb:Nat)(O:Nat→Prop)(L:bd)(s:St)(h:ag w mb O L s)(x y:Int)(r:List Int)(T:s.stack=y::x::r) :
  Calls Tryz.prog 212 #[.pointer (some ⟨mb,0,none⟩)] w (aw w mb O (Lk s r x y)):=by
 have H:=Aq h;have D:=Aq T;have hM:=h.ok.move;have HX:=h.ok.c_;clear h T;by_cases S:s.look=s.move
 ·have P:=Aq S;clear S;by_cases U:cO s x=true
  ·have B:=Aq U;obtain⟨i,rfl,L'⟩:=Ip U;clear U;by_cases V:cO s y=true
   ·have F:=Aq V;obtain⟨j,rfl,hK⟩:=Ip V;clear V;go_enter Tryz.func212,Tryz.ntmps212;go_wp2_with fail
    refine(Dz w mb O L s H.o _ _ r D.o _ _).mono ?_;rintro e w'⟨rfl,k,a,q⟩;obtain⟨X,m⟩:=k.ma;have z:=Aq m;have Z:=Aq k;have G:=k.lt;have f:=a.cell 0;have R:=a.lt;have E:=a.frozen 0;have l:=q.cell 0;have Q:=q.lt;have C:=q.frozen 0;simp only[Az,Ay]at f l;clear k m a q;go_wp2_with fail
    have dH:=z.o.aG.cell 42;rw[z.o.c.dH]at dH;dsimp only at dH;have dL:=z.o.aG.cell 43;rw[z.o.c.dL]at dL;dsimp only at dL;rw[P.o]at dH;have u:w'.drew.cell? ⟨mb,42,none⟩=some (Aj s.move)∧w'.drew.cell? ⟨mb,43,none⟩=some (Aj s.move)∧w'.drew.cell? ⟨w.heap.size,0,none⟩=some (Aj i)∧w'.drew.cell? ⟨w.heap.size+1,0,none⟩=some (Aj j):=⟨dH,dL,f,l⟩;refine Cv [12,17] [3,7,11,16] [12] 19 (fun w':World=>w'.cell? ⟨mb,42,none⟩=some (Aj s.move)∧w'.cell? ⟨mb,43,none⟩=some (Aj s.move)∧w'.cell? ⟨w.heap.size,0,none⟩=some (Aj i)∧w'.cell? ⟨w.heap.size+1,0,none⟩=some (Aj j)) ?_
    iterate 3 (refine Be ?_)
    refine Bj u ?_
    iterate 3 (refine Be ?_)
    refine Bj u ?_
    iterate 3 (refine Be ?_)
    go_simp;refine Bj u ?_;refine Bi fun K v=>?_;go_simp
    refine(Gv w'.drew mb O X _ z.o.drew _).mono ?_;rintro e A⟨rfl,rfl⟩;have b:cO { s with stack:=r } ((i:Int))=true:=B.o;rw[b];clear b;dsimp only;refine v _ _ (fun _=>u) ?_;clear v K
    iterate 3 (refine Be ?_)
    go_simp;refine Bj u ?_;refine Bi fun K v=>?_;go_simp
    refine(Gv w'.drew mb O X _ z.o.drew _).mono ?_;rintro e A⟨rfl,rfl⟩;have b:cO { s with stack:=r } ((j:Int))=true:=F.o;rw[b];clear b;dsimp only;refine Bh v ?_;clear v K;refine Be ?_;refine Bb ?_;have n:=Aq z.o.drew;have Y:=Aq Z.o.fr.drew;have e1:w'.drew.cell? ⟨w.heap.size,0,none⟩=some (Aj i):=f;have e2:w'.drew.cell? ⟨w.heap.size+1,0,none⟩=some (Aj j):=l;have e3:w'.drew.cell? ⟨mb,43,none⟩=some (Aj s.move):=dL;have w5:w.heap.size<w'.drew.heap.size:=R;have HT:w.heap.size+1<w'.drew.heap.size:=Q;have hy:mb<w'.drew.heap.size:=n.o.aG.lt;obtain⟨g,c,pt,J,hh,I,hx,N⟩:=n.o.pt (p:=i) L';dsimp only at I J hh;have b1:=Aq I;have e4:=n.o.aG.cell 3;rw[n.o.c.c3,J]at e4;have M:=N s.move;clear N I J u dH dL f l R Q E C;generalize hd:(if s.move=1 then 1 else 0:Nat)=d at M;have HD:=Aq hd;clear hd;generalize w'.drew=W at *;go_wp2_with fail
    have u:W.drew.cell? ⟨mb,43,none⟩=some (Aj s.move)∧W.drew.cell? ⟨mb,3,none⟩=some (.slice (some ⟨g,0,none⟩) s.aF.length c)∧W.drew.cell? ⟨w.heap.size,0,none⟩=some (Aj i)∧W.drew.cell? ⟨w.heap.size+1,0,none⟩=some (Aj j)∧W.drew.cell? ⟨g,i*2+d,none⟩=some (Aj (Cg s.move pt)):=⟨e3,e4,e1,e2,M⟩;refine Cv [17,20] [1,5,10,11,16,19] [17] 21 (fun w':World=>w'.cell? ⟨mb,43,none⟩=some (Aj s.move)∧w'.cell? ⟨mb,3,none⟩=some (.slice (some ⟨g,0,none⟩) s.aF.length c)∧w'.cell? ⟨w.heap.size,0,none⟩=some (Aj i)∧w'.cell? ⟨w.heap.size+1,0,none⟩=some (Aj j)∧w'.cell? ⟨g,i*2+d,none⟩=some (Aj (Cg s.move pt))) ?_;refine Be ?_;refine Bj u ?_
    iterate 3 (refine Be ?_)
    refine Bj u ?_
    iterate 4 (refine Be ?_)
    refine Bj u ?_;refine Bj u ?_
    iterate 4 (refine Be ?_)
    refine Bj u ?_;refine Bi fun K v=>?_;go_simp
    refine(Cy _ _ _ _).mono ?_;rintro e A⟨rfl,rfl⟩;rw[HD.o];dsimp only;refine v _ _ (fun _=>u) ?_;clear v K;refine Be ?_;refine Bj u ?_;refine Bi fun K v=>?_;go_simp
    refine(Sx W.drew mb O X _ n.o.drew j s.move _ hK hM).mono ?_;intro e w9 hp;have HP:=Aq (hp.bQ Y.o.drew);obtain⟨rfl,_⟩:=hp;dsimp only;refine Bh v ?_;clear v K;refine Bb ?_;go_wp2;go_end0;rw[Yq P.o B.o F.o b1.o];exact HP.o
   ·have F:=Aq V;have hS:cO s y=false:=by simpa using V
    have b2:=Aq hS;clear V hS;go_enter Tryz.func212,Tryz.ntmps212;go_wp2_with fail
    refine(Dz w mb O L s H.o _ _ r D.o _ _).mono ?_;rintro e w'⟨rfl,k,a,q⟩;obtain⟨X,m⟩:=k.ma;have z:=Aq m;have Z:=Aq k;have G:=k.lt;have f:=a.cell 0;have R:=a.lt;have E:=a.frozen 0;have l:=q.cell 0;have Q:=q.lt;have C:=q.frozen 0;simp only[Az,Ay]at f l;clear k m a q;go_wp2_with fail
    have dH:=z.o.aG.cell 42;rw[z.o.c.dH]at dH;dsimp only at dH;have dL:=z.o.aG.cell 43;rw[z.o.c.dL]at dL;dsimp only at dL;rw[P.o]at dH;have u:w'.drew.cell? ⟨mb,42,none⟩=some (Aj s.move)∧w'.drew.cell? ⟨mb,43,none⟩=some (Aj s.move)∧w'.drew.cell? ⟨w.heap.size,0,none⟩=some (Aj i)∧w'.drew.cell? ⟨w.heap.size+1,0,none⟩=some (Aj y):=⟨dH,dL,f,l⟩;refine Cv [12,17] [3,7,11,16] [12] 19 (fun w':World=>w'.cell? ⟨mb,42,none⟩=some (Aj s.move)∧w'.cell? ⟨mb,43,none⟩=some (Aj s.move)∧w'.cell? ⟨w.heap.size,0,none⟩=some (Aj i)∧w'.cell? ⟨w.heap.size+1,0,none⟩=some (Aj y)) ?_
    iterate 3 (refine Be ?_)
    refine Bj u ?_
    iterate 3 (refine Be ?_)
    refine Bj u ?_
    iterate 3 (refine Be ?_)
    go_simp;refine Bj u ?_;refine Bi fun K v=>?_;go_simp
    refine(Gv w'.drew mb O X _ z.o.drew _).mono ?_;rintro e A⟨rfl,rfl⟩;have b:cO { s with stack:=r } ((i:Int))=true:=B.o;rw[b];clear b;dsimp only;refine v _ _ (fun _=>u) ?_;clear v K
    iterate 3 (refine Be ?_)
    go_simp;refine Bj u ?_;refine Bi fun K v=>?_;go_simp
    refine(Gv w'.drew mb O X _ z.o.drew _).mono ?_;rintro e A⟨rfl,rfl⟩;have b:cO { s with stack:=r } (y)=false:=b2.o;rw[b];clear b;dsimp only;refine Bh v ?_;clear v K;refine Be ?_;refine Bb ?_;have n:=Aq z.o.drew;have Y:=Aq Z.o.fr.drew;go_wp2;go_end0;rw[Nk (fun e=>F.o e.2.2)];exact .dE n.o Y.o
  ·have B:=Aq U;have HM:cO s x=false:=by simpa using U
   have ht:=Aq HM;clear U HM;go_enter Tryz.func212,Tryz.ntmps212;go_wp2_with fail
   refine(Dz w mb O L s H.o _ _ r D.o _ _).mono ?_;rintro e w'⟨rfl,k,a,q⟩;obtain⟨X,m⟩:=k.ma;have z:=Aq m;have Z:=Aq k;have G:=k.lt;have f:=a.cell 0;have R:=a.lt;have E:=a.frozen 0;have l:=q.cell 0;have Q:=q.lt;have C:=q.frozen 0;simp only[Az,Ay]at f l;clear k m a q;go_wp2_with fail
   have dH:=z.o.aG.cell 42;rw[z.o.c.dH]at dH;dsimp only at dH;have dL:=z.o.aG.cell 43;rw[z.o.c.dL]at dL;dsimp only at dL;rw[P.o]at dH;have u:w'.drew.cell? ⟨mb,42,none⟩=some (Aj s.move)∧w'.drew.cell? ⟨mb,43,none⟩=some (Aj s.move)∧w'.drew.cell? ⟨w.heap.size,0,none⟩=some (Aj x)∧w'.drew.cell? ⟨w.heap.size+1,0,none⟩=some (Aj y):=⟨dH,dL,f,l⟩;refine Cv [12] [3,7,11] [] 19 (fun w':World=>w'.cell? ⟨mb,42,none⟩=some (Aj s.move)∧w'.cell? ⟨mb,43,none⟩=some (Aj s.move)∧w'.cell? ⟨w.heap.size,0,none⟩=some (Aj x)∧w'.cell? ⟨w.heap.size+1,0,none⟩=some (Aj y)) ?_
   iterate 3 (refine Be ?_)
   refine Bj u ?_
   iterate 3 (refine Be ?_)
   refine Bj u ?_
   iterate 3 (refine Be ?_)
   go_simp;refine Bj u ?_;refine Bi fun K v=>?_;go_simp
   refine(Gv w'.drew mb O X _ z.o.drew _).mono ?_;rintro e A⟨rfl,rfl⟩;have b:cO { s with stack:=r } (x)=false:=ht.o;rw[b];clear b;dsimp only;refine Bh v ?_;clear v K;refine Be ?_;refine Be ?_;go_simp;refine Ci rfl rfl rfl (by kernel_rfl) (fun _ _ _ h=>h) ?_;refine Ci rfl rfl rfl (by kernel_rfl) (fun _ _ _ h=>h) ?_;refine Ci rfl rfl rfl (by kernel_rfl) (fun _ _ _ h=>h) ?_;refine Be ?_;refine Bb ?_;have n:=Aq z.o.drew;have Y:=Aq Z.o.fr.drew;go_wp2;go_end0;rw[Nk (fun e=>B.o e.2.1)];exact .dE n.o Y.o
 ·have P:=Aq S;have hb:(s.look==s.move)=false:=by simpa using S
  clear S;go_enter Tryz.func212,Tryz.ntmps212;go_wp2_with fail
  refine(Dz w mb O L s H.o _ _ r D.o _ _).mono ?_;rintro e w'⟨rfl,k,a,q⟩;obtain⟨X,m⟩:=k.ma;have z:=Aq m;have Z:=Aq k;have G:=k.lt;have f:=a.cell 0;have R:=a.lt;have E:=a.frozen 0;have l:=q.cell 0;have Q:=q.lt;have C:=q.frozen 0;simp only[Az,Ay]at f l;clear k m a q;go_wp2_with fail
  have dH:=z.o.aG.cell 42;rw[z.o.c.dH]at dH;dsimp only at dH;have dL:=z.o.aG.cell 43;rw[z.o.c.dL]at dL;dsimp only at dL;have u:w'.drew.cell? ⟨mb,42,none⟩=some (Aj s.look)∧w'.drew.cell? ⟨mb,43,none⟩=some (Aj s.move)∧w'.drew.cell? ⟨w.heap.size,0,none⟩=some (Aj x)∧w'.drew.cell? ⟨w.heap.size+1,0,none⟩=some (Aj y):=⟨dH,dL,f,l⟩;refine Cv [] [3,7] [] 19 (fun w':World=>w'.cell? ⟨mb,42,none⟩=some (Aj s.look)∧w'.cell? ⟨mb,43,none⟩=some (Aj s.move)∧w'.cell? ⟨w.heap.size,0,none⟩=some (Aj x)∧w'.cell? ⟨w.heap.size+1,0,none⟩=some (Aj y)) ?_
  iterate 3 (refine Be ?_)
  refine Bj u ?_
  iterate 3 (refine Be ?_)
  refine Bj u ?_;refine Be ?_;refine Be ?_;go_simp;refine Ci rfl rfl rfl (by kernel_rfl) (fun _ _ _ h=>h) ?_;refine Ci rfl rfl rfl (by kernel_rfl) (fun _ _ _ h=>h) ?_;refine Ci rfl rfl rfl (by kernel_rfl) (fun _ _ _ h=>h) ?_;refine Be ?_;refine Be ?_;go_simp;refine Ci rfl rfl rfl (by kernel_rfl) (fun _ _ _ h=>h) ?_;refine Ci rfl rfl rfl (by kernel_rfl) (fun _ _ _ h=>h) ?_;refine Ci rfl rfl rfl (by kernel_rfl) (fun _ _ _ h=>h) ?_;refine Be ?_;refine Bb ?_;have n:=Aq z.o.drew;have Y:=Aq Z.o.fr.drew;go_wp2;go_end0;rw[Nk (fun e=>P.o e.1)];exact .dE n.o Y.o
theorem Zbm (w:World)(mb:Nat)(O:Nat→Prop)(L:bd)(s:St)(h:ag w mb O L s)(a x y:Int)(r:List Int)(u:s.stack=y::x::r) :
  Calls Tryz.prog 207 #[.pointer (some ⟨mb,0,none⟩),Aj a] w (aw w mb O (Rg s r x y)):=by
 have v:=Aq (Zr w mb O L s h x y r u);clear h u;go_enter Tryz.func207,Tryz.ntmps207;go_wp2_with fail
 refine v.o.mono ?_;intro e p z;have k:=Aq z;obtain⟨rfl,_⟩:=z;go_wp2;go_end0;exact k.o
theorem Zfc (w:World)(mb:Nat)(O:Nat→Prop)(L:bd)(s:St)(h:ag w mb O L s)(a x y:Int)(r:List Int)(u:s.stack=y::x::r) :
  Calls Tryz.prog 209 #[.pointer (some ⟨mb,0,none⟩),Aj a] w (aw w mb O (mP s r x y)):=by
 have v:=Aq (Zka w mb O L s h x y r u);clear h u;go_enter Tryz.func209,Tryz.ntmps209;go_wp2_with fail
 refine v.o.mono ?_;intro e p z;have k:=Aq z;obtain⟨rfl,_⟩:=z;go_wp2;go_end0;exact k.o
theorem Yp (w:World)(mb:Nat)(O:Nat→Prop)(L:bd)(s:St)(h:ag w mb O L s)(a x y:Int)(r:List Int)(u:s.stack=y::x::r) :
  Calls Tryz.prog 211 #[.pointer (some ⟨mb,0,none⟩),Aj a] w (aw w mb O (Lk s r x y)):=by
 have v:=Aq (Zdt w mb O L s h x y r u);clear h u;go_enter Tryz.func211,Tryz.ntmps211;go_wp2_with fail
 refine v.o.mono ?_;intro e p z;have k:=Aq z;obtain⟨rfl,_⟩:=z;go_wp2;go_end0;exact k.o
section
variable {w w' w1 : World} {sb : Nat} {L : bN} {s : Sr.St}
theorem ar.pt (h:ar w sb L s){p:Nat}(u:p<s.m.aF.length):∃g c x,L.cu=.slice (some ⟨g,0,none⟩) s.m.aF.length c∧s.m.aF.length≤c∧s.m.aF[p]?=some x∧g<w.heap.size∧(∀axis,w.cell? ⟨g,p*2+(if axis=1 then 1 else 0),none⟩=some (Aj (Cg axis x)))∧∀j,w.frozen? ⟨g,j,none⟩=false:=by
 obtain⟨x,z⟩:∃x,s.m.aF[p]?=some x:=⟨_,Bf u⟩;obtain⟨g,c,y,v,a,q,r⟩:=Cf h.cu (by omega);refine⟨g,c,x,y,v,z,q,fun axis=>r _ _ (Eu z axis),fun j=>?_⟩;obtain⟨_,_,_,k⟩:=Bg h.cu (g:=g) (by rw[y];rfl);exact k.frozen j
theorem ar.tqAt (h:ar w sb L s){p:Nat}(z:p<s.m.aF.length):∃g c t,L.tq=.slice (some ⟨g,0,none⟩) s.m.aB.length c∧s.m.aB[p]?=some t∧g<w.heap.size∧w.cell? ⟨g,p,none⟩=some (Aj t)∧w.frozen? ⟨g,p,none⟩=false:=by
 have q:p<s.m.aB.length:=by rw[h.ok.m.tl];exact z
 obtain⟨t,y⟩:∃t,s.m.aB[p]?=some t:=⟨_,Bf q⟩;obtain⟨g,c,x,r,a,v,k⟩:=Cf h.tq (by omega);obtain⟨_,_,_,u⟩:=Bg h.tq (g:=g) (by rw[x];rfl);exact⟨g,c,t,x,y,v,k _ _ (Cn y),u.frozen p⟩
end
theorem Fj (w:World)(sb:Nat)(L:bN)(s:Sr.St)(h:ar w sb L s)(x:Int):Calls Tryz.prog 226 #[.pointer (some ⟨sb,0,none⟩),Aj x] w fun e w'=>e=.returned (.bool (cO s.m x))∧w=w':=by
 obtain⟨A,c,y,k,z⟩:=Bc h.cu;have gw:=h.gw;rw[y]at gw;have v:=h.aG.lt;clear h y;by_cases u:0≤x
 all_goals
  go_enter Tryz.func226,Tryz.ntmps226;go_wp2_with fail
  go_wp2
  all_goals
   go_ret;exact⟨Cw (by unfold cO;simp;omega),rfl⟩
theorem Qm (w:World)(sb:Nat)(L:bN)(s:Sr.St)(h:ar w sb L s)(n:Int)(x:Bool)(z:x=true→0≤n∧s.pc+n≤1000000):Calls Tryz.prog 150 #[.pointer (some ⟨sb,0,none⟩),Aj n,.bool x] w (bB w sb L (Sr.cC s n x)):=by
 have jY:=h.jY;have k:=h.aG.lt;have H:=Aq h;cases x with
 |false =>
  clear h z;go_enter Tryz.func150,Tryz.ntmps150;go_wp2_with fail
  go_wp2;go_end0;exact .dE H.o (qF _ w)
 |true =>
  obtain⟨p,u⟩:=z rfl;have y:=Aq (show bB w sb L (Sr.cC s n true) (.returned (.tuple #[])) (w.setCell ⟨sb,75,none⟩ (Aj ((s.pc+n.toNat:Nat):Int))) from⟨rfl,h.jq _,(qF _ w).setCell (.inl (.inl rfl)) _⟩);obtain⟨n,rfl⟩:∃m:Nat,n=m:=⟨n.toNat,by omega⟩;have v:=h.aG.frozen 75;rw[Da]at y;have e:((s.pc+n:Nat):Int)=(s.pc:Int)+n:=by omega
  rw[e]at y;clear h e;generalize s.pc=pc at *;go_enter Tryz.func150,Tryz.ntmps150;go_wp2_with fail
  go_wp2;go_end0;exact y.o
theorem Pa (w:World)(sb:Nat)(L:bN)(s:Sr.St)(h:ar w sb L s)(p:Nat)(v:Int)(Z:p<s.m.aF.length):Calls Tryz.prog 228 #[.pointer (some ⟨sb,0,none⟩),Aj p,Aj v] w (bB w sb L { s with m:=bn s.m p s.m.move v }):=by
 obtain⟨g,c,x,l,M,f,hg,Q,A⟩:=h.pt Z;obtain⟨gt,n,t,H,b,h1,tc,O⟩:=h.tqAt Z;have I:=Q s.m.move;have T:=A (p*2+(if s.m.move=1 then 1 else 0));have gw:=h.gw;rw[l]at gw;have gk:=h.gk;have X:=h.ok.m.move;have J:=h.ok.m.aF x (Bz f);have D:=h.ok.m.aB t (Bz b);have r:=(h.jC (g:=g) (by rw[l];rfl) f s.m.move (bA v) (Fq v) J).drew;have B:=r.drew.setTq (g:=gt) (by rw[H];rfl) (i:=p) (by have:=h.ok.m.tl;simp only;omega) (Zh X D);have S:Fr (eY L sb) w ((w.setCell ⟨g,p*2+(if s.m.move=1 then 1 else 0),none⟩ (Aj (bA v))).drew.drew.setCell ⟨gt,p,none⟩ (Aj (Yt s.m.move t))):=((qF _ w).setCell (.inl (.inr (.inl (by rw[l];rfl)))) _).drew.drew.setCell (.inl (.inr (.inr (.inl (by rw[H];rfl))))) _;have E:{ s with m := { s.m with aF:=s.m.aF.set p (if s.m.move=1 then(x.1,bA v) else(bA v,x.2)),aB:=s.m.aB.set p (Yt s.m.move t) } } = { s with m:=bn s.m p s.m.move v } := by
  unfold bn Yt fm;rw[De f,De b]
 have G:Hid (bB w sb L { s with m:=bn s.m p s.m.move v } (.returned (.tuple #[])) ((w.setCell ⟨g,p*2+(if s.m.move=1 then 1 else 0),none⟩ (Aj (bA v))).drew.drew.setCell ⟨gt,p,none⟩ (Aj (Yt s.m.move t)))):=Aq (by rw[←E];exact .dE B S);have H1:=Aq r;have Y:=r.drew.c66;have U:=r.drew.gk;obtain⟨hK,_,t',z,a,_,F,ht⟩:=r.drew.tqAt (p:=p) (by simpa using Z);simp only at z a U;obtain rfl:t=t':=by rw[b]at a;injection a with a
 rw[H]at z Y
 injection z with z
 injection z with z
 injection z with z
 subst z;have hs:=h.aG.lt;have mv:(p:Int)<s.m.aF.length:=by omega
 have hv:=h.ok.m.c_;have P:=h.ok.m.tl;have hm:p<s.m.aB.length:=by omega
 have bt:s.m.aB.length≤1000000:=by omega
 have hx:=Aq P;clear h r B S E Q A l H f b a P M;generalize k:s.m.move=q at *;generalize C:(if q=1 then 1 else 0:Nat)=d at *;have N:=Aq C;have HM:=Aq k;clear C k;go_enter Tryz.func228,Tryz.ntmps228;go_wp2_with fail
 have u:w.drew.cell? ⟨sb,65,none⟩=some (.slice (some ⟨g,0,none⟩) s.m.aF.length c)∧w.drew.cell? ⟨sb,73,none⟩=some (Aj q):=⟨gw,gk⟩;refine Bs (Cl [11,13,15]) (Bm [4,10]) (Bm []) [0,1,2,3,4,5,6,7,8,9,10,12,11,13,14,15] (fun wq:World=>wq.cell? ⟨sb,65,none⟩=some (.slice (some ⟨g,0,none⟩) s.m.aF.length c)∧wq.cell? ⟨sb,73,none⟩=some (Aj q)) (by kernel_rfl) (by kernel_rfl) (by kernel_rfl) (by kernel_rfl) ?_
 repeat (first|refine Be ?_|refine Bj u ?_)
 refine Bi fun K y=>?_;go_simp
 refine(Dy _ _ _ _ X.1 X.2).mono ?_;rintro e w5⟨rfl,rfl⟩;rw[N.o];dsimp only;refine y _ _ (fun _=>u) ?_;clear y K;refine Bi fun K y=>?_;go_simp
 refine(Ed _ _).mono ?_;rintro e w5⟨rfl,rfl⟩;dsimp only;refine y _ _ (fun _=>u) ?_;clear y K
 repeat (first|refine Be ?_|refine Bj u ?_)
 refine Bi fun K y=>?_;go_simp
 refine Bh y ?_;clear y K;refine Bb ?_;clear u gw gk I T tc O;go_wp2_with fail
 generalize (w.setCell ⟨g,p*2+d,none⟩ (Aj (bA v))).drew=W at *;have j:=Ry X D;generalize V:Yt q t=R at *;have hS:=Aq V;clear V;rcases(show q=0∨q=1 by omega) with k|k
 ·subst k
  replace j:bits BinOp.or IntKind.i64 t (IntKind.i64.wrap 1)=R:=j
  have u:W.drew.cell? ⟨sb,66,none⟩=some (.slice (some ⟨gt,0,none⟩) s.m.aB.length n)∧W.drew.cell? ⟨sb,73,none⟩=some (Aj 0)∧W.drew.cell? ⟨gt,p,none⟩=some (Aj t):=⟨Y,U,F⟩;refine Cv [15] [4,7,11] [] 16 (fun wq:World=>wq.cell? ⟨sb,66,none⟩=some (.slice (some ⟨gt,0,none⟩) s.m.aB.length n)∧wq.cell? ⟨sb,73,none⟩=some (Aj 0)∧wq.cell? ⟨gt,p,none⟩=some (Aj t)) ?_
  repeat (first|refine Be ?_|refine Bj u ?_)
  refine Bi fun K y=>?_;go_simp
  refine Bh y ?_;clear y K;refine Bb ?_;go_wp2;go_end0;exact G.o
 ·subst k
  replace j:bits BinOp.or IntKind.i64 t (IntKind.i64.wrap 2)=R:=j
  have u:W.drew.cell? ⟨sb,66,none⟩=some (.slice (some ⟨gt,0,none⟩) s.m.aB.length n)∧W.drew.cell? ⟨sb,73,none⟩=some (Aj 1)∧W.drew.cell? ⟨gt,p,none⟩=some (Aj t):=⟨Y,U,F⟩;refine Cv [15] [4,7,11] [] 16 (fun wq:World=>wq.cell? ⟨sb,66,none⟩=some (.slice (some ⟨gt,0,none⟩) s.m.aB.length n)∧wq.cell? ⟨sb,73,none⟩=some (Aj 1)∧wq.cell? ⟨gt,p,none⟩=some (Aj t)) ?_
  repeat (first|refine Be ?_|refine Bj u ?_)
  refine Bi fun K y=>?_;go_simp
  refine Bh y ?_;clear y K;refine Bb ?_;go_wp2;go_end0;exact G.o
end
section
open Go.RowKit Mc
theorem bB.to {w w1:World}{sb:Nat}{L:bN}{s':Sr.St}(h:ar w1 sb L s') (x:Fr (eY L sb) w w1):bB w sb L s' (.returned (.tuple #[])) w1:=⟨rfl,h,x⟩
theorem Qk (w:World)(sb:Nat)(L:bN)(s:Sr.St)(h:ar w sb L s)(op n b d:Int)(a:Nat)(j:a<64)(A:Option Addr)(k c:Nat)(Z:k≤1000000) (g:¬ (0≤s.aW.getD a 0∧s.aW.getD a 0<k)) :
  Calls Tryz.prog 130 #[.pointer (some ⟨sb,0,none⟩),.slice A k c,Ff ⟨op,d,a,b,n⟩] w (bB w sb L s):=by
 unfold Ff;have H:=Aq h;have Y:(a:Int)<64:=by omega
 have V:=h.aG.lt;obtain⟨x,i,_,_⟩:=h.jS j;rw[i]at g;have l:=Aq i;clear h i;by_cases m:0≤x
 ·have U:¬ x<k:=fun e=>g ⟨m,e⟩
  clear g;go_enter Tryz.func130,Tryz.ntmps130;go_wp2_with fail
  generalize q:w.alloc (.cells #[Aj op,Aj (d:Int),Aj (a:Int),Aj (b:Int),Aj n] 50)=W at *;obtain⟨X,p,u,v,K,H1,z,r⟩:=H.o.box q;clear q;have y:=H1.o.fQ j;rw[l.o]at y;have f:W.drew.cell? ⟨w.heap.size,2,none⟩=some (Aj (a:Int))∧W.drew.cell? ⟨sb,a,none⟩=some (Aj x):=⟨u,y⟩;refine Cv [] [2,6] [] 8 (fun wq:World=>wq.cell? ⟨w.heap.size,2,none⟩=some (Aj (a:Int))∧wq.cell? ⟨sb,a,none⟩=some (Aj x)) ?_
  iterate 8 (first|refine Be ?_|refine Bj f ?_)
  refine Bb ?_;clear y;have H1:=Aq H1.o.drew;have z:=Aq z.o.drew
  replace p:W.drew.cell? ⟨w.heap.size,1,none⟩=some (Aj (d:Int)):=p
  replace u:W.drew.cell? ⟨w.heap.size,2,none⟩=some (Aj (a:Int)):=u
  replace v:W.drew.cell? ⟨w.heap.size,3,none⟩=some (Aj (b:Int)):=v
  replace r:w.heap.size<W.drew.heap.size:=r
  clear f;generalize W.drew=W at *;go_wp2;go_end0;exact .dE H1.o z.o
 ·clear g;go_enter Tryz.func130,Tryz.ntmps130;go_wp2_with fail
  generalize q:w.alloc (.cells #[Aj op,Aj (d:Int),Aj (a:Int),Aj (b:Int),Aj n] 50)=W at *;obtain⟨X,p,u,v,K,H1,z,r⟩:=H.o.box q;clear q;have y:=H1.o.fQ j;rw[l.o]at y;have f:W.drew.cell? ⟨w.heap.size,2,none⟩=some (Aj (a:Int))∧W.drew.cell? ⟨sb,a,none⟩=some (Aj x):=⟨u,y⟩;refine Cv [] [2,6] [] 8 (fun wq:World=>wq.cell? ⟨w.heap.size,2,none⟩=some (Aj (a:Int))∧wq.cell? ⟨sb,a,none⟩=some (Aj x)) ?_
  iterate 8 (first|refine Be ?_|refine Bj f ?_)
  refine Bb ?_;clear y;have H1:=Aq H1.o.drew;have z:=Aq z.o.drew
  replace p:W.drew.cell? ⟨w.heap.size,1,none⟩=some (Aj (d:Int)):=p
  replace u:W.drew.cell? ⟨w.heap.size,2,none⟩=some (Aj (a:Int)):=u
  replace v:W.drew.cell? ⟨w.heap.size,3,none⟩=some (Aj (b:Int)):=v
  replace r:w.heap.size<W.drew.heap.size:=r
  clear f;generalize W.drew=W at *;go_wp2;go_end0;exact .dE H1.o z.o
theorem Ny (w:World)(sb:Nat)(L:bN)(s:Sr.St)(h:ar w sb L s)(op n d:Int)(a b:Nat)(S:a<64)(l:b<64)(i k c g:Nat)(F:k≤1000000)(V:s.aW.getD a 0=i)(hi:i<k)(s':Sr.St)(Q:eY L sb g)
  (P:∀W,ar W sb L s→ar (W.setCell ⟨g,i,none⟩ (Aj (s.aW.getD b 0))) sb L s'∧(∃u,W.cell? ⟨g,i,none⟩=some u)∧W.frozen? ⟨g,i,none⟩=false) :
  Calls Tryz.prog 130 #[.pointer (some ⟨sb,0,none⟩),.slice (some ⟨g,0,none⟩) k c,Ff ⟨op,d,a,b,n⟩] w (bB w sb L s'):=by
 unfold Ff;have H:=Aq h;have C:(a:Int)<64:=by omega
 have G:(b:Int)<64:=by omega
 have M:=h.aG.lt;have B:=Aq V;have Y:=Aq P;obtain⟨y,v,_,_⟩:=h.jS l;have R:=Aq v;rw[v]at Y;clear h V v P;go_enter Tryz.func130,Tryz.ntmps130;go_wp2_with fail
 generalize m:w.alloc (.cells #[Aj op,Aj (d:Int),Aj (a:Int),Aj (b:Int),Aj n] 50)=W at *;obtain⟨I,j,e,z,E,H1,r,Z⟩:=H.o.box m;clear m;have q:=H1.o.fQ S;rw[B.o]at q;have x:W.drew.cell? ⟨w.heap.size,2,none⟩=some (Aj (a:Int))∧W.drew.cell? ⟨sb,a,none⟩=some (Aj i):=⟨e,q⟩;refine Cv [] [2,6] [] 8 (fun wq:World=>wq.cell? ⟨w.heap.size,2,none⟩=some (Aj (a:Int))∧wq.cell? ⟨sb,a,none⟩=some (Aj i)) ?_
 iterate 8 (first|refine Be ?_|refine Bj x ?_)
 refine Bb ?_;clear q;have H1:=Aq H1.o.drew;have r:=Aq r.o.drew
 replace j:W.drew.cell? ⟨w.heap.size,1,none⟩=some (Aj (d:Int)):=j
 replace e:W.drew.cell? ⟨w.heap.size,2,none⟩=some (Aj (a:Int)):=e
 replace z:W.drew.cell? ⟨w.heap.size,3,none⟩=some (Aj (b:Int)):=z
 replace Z:w.heap.size<W.drew.heap.size:=Z
 clear x;generalize W.drew=W at *;go_wp2_with fail
 have U:=H1.o.fQ l;rw[R.o]at U;obtain⟨f,⟨u,J⟩,D⟩:=Y.o W.drew H1.o.drew;have A:=Aq (bB.to f (r.o.drew.setCell (p:=⟨g,i,none⟩) (.inl Q) (Aj y)));clear f;have x:W.drew.cell? ⟨w.heap.size,3,none⟩=some (Aj (b:Int))∧W.drew.cell? ⟨sb,b,none⟩=some (Aj y):=⟨z,U⟩;refine Cv [10] [4,8] [] 11 (fun wq:World=>wq.cell? ⟨w.heap.size,3,none⟩=some (Aj (b:Int))∧wq.cell? ⟨sb,b,none⟩=some (Aj y)) ?_
 iterate 10 (first|refine Be ?_|refine Bj x ?_)
 refine Bi fun K X=>?_;go_simp
 refine Bh X ?_;clear X K;refine Bb ?_;go_wp2;go_end0;exact A.o
def Ly (s:Sr.St) (l:List (Int×Int)) (d:Nat) (p:Int):Sr.St := { s with aW:=s.aW.set d (if cO s.m p then Cg s.m.look (l.getD p.toNat (0,0)) else 0) }
theorem Nz (w:World)(sb:Nat)(L:bN)(s:Sr.St)(h:ar w sb L s)(op n b:Int)(d a:Nat)(P:d<64)(D:a<64)(v:Value) (l:List (Int×Int)) (C:l.length=s.m.aF.length) (V:∀W,ar W sb L s→W.ownsRow 0 76 2 v l.length (bu l)) (S:∀p∈l,bI p.1∧bI p.2) :
  Calls Tryz.prog 138 #[.pointer (some ⟨sb,0,none⟩),v,Ff ⟨op,d,a,b,n⟩] w (bB w sb L (Ly s l d (s.aW.getD a 0))):=by
 unfold Ff;have H:=Aq h;have r2:(a:Int)<64:=by omega
 have hz:(d:Int)<64:=by omega
 have r3:=h.aG.lt;have hW:=h.ok.m.c_;have F:=h.ok.m.look;obtain⟨x,U,z,hK⟩:=h.jS D;have HX:=Aq U;rw[U];obtain⟨A,c,rfl,hS,N⟩:=Bc (V w h);have HV:=Aq V;have HL:=Aq C;by_cases j:cO s.m x=true
 ·obtain⟨i,rfl,hi⟩:=Ip j;have r1:i<l.length:=by omega
  have lk:l.length≤1000000:=by omega
  obtain⟨p,Q⟩:∃p,l[i]?=some p:=⟨_,Bf r1⟩;have R:=Aq (show Ly s l d i = { s with aW:=s.aW.set d (Cg s.m.look p) } by unfold Ly;rw[if_pos j,Da,De Q]);have I:bI (Cg s.m.look p):=by
   have:=S p (Bz Q);unfold Cg;split
   ·exact this.2
   ·exact this.1
  have c1:=Aq I;have E:=Aq j;have F1:=Aq Q;clear h U V S hS N z C j Q I;go_enter Tryz.func138,Tryz.ntmps138;go_wp2_with fail
  generalize Z:w.alloc (.cells #[Aj op,Aj (d:Int),Aj (a:Int),Aj (b:Int),Aj n] 50)=W at *;obtain⟨r0,k,q,X,r4,H1,u,f⟩:=H.o.box Z;clear Z;have z:=H1.o.fQ D;rw[HX.o]at z;have y:W.drew.cell? ⟨w.heap.size,2,none⟩=some (Aj (a:Int))∧W.drew.cell? ⟨sb,a,none⟩=some (Aj i):=⟨q,z⟩;refine Cv [] [2,6] [] 9 (fun wq:World=>wq.cell? ⟨w.heap.size,2,none⟩=some (Aj (a:Int))∧wq.cell? ⟨sb,a,none⟩=some (Aj i)) ?_
  iterate 9 (first|refine Be ?_|refine Bj y ?_)
  refine Bb ?_;clear z;have H1:=Aq H1.o.drew;have u:=Aq u.o.drew
  replace k:W.drew.cell? ⟨w.heap.size,1,none⟩=some (Aj (d:Int)):=k
  replace q:W.drew.cell? ⟨w.heap.size,2,none⟩=some (Aj (a:Int)):=q
  replace X:W.drew.cell? ⟨w.heap.size,3,none⟩=some (Aj (b:Int)):=X
  replace f:w.heap.size<W.drew.heap.size:=f
  clear y;generalize W.drew=W at *;go_wp2_with fail
  refine(Fj _ _ _ _ H1.o _).mono ?_;rintro e w5⟨rfl,rfl⟩;rw[E.o];go_wp2_with fail
  obtain⟨g,c',B,_,_,hg,J⟩:=Cf (HV.o W H1.o) (by omega);have T:=J _ _ (Eu F1.o s.m.look)
  injection B with B
  subst B;have ik:=H1.o.ik;clear J;generalize M:s.m.look=Y at *;have hh:=Aq M;clear M;generalize G:(if Y=1 then 1 else 0:Nat)=dd at *;have HD:=Aq G;clear G;have y:W.drew.cell? ⟨sb,72,none⟩=some (Aj Y)∧W.drew.cell? ⟨g,i*2+dd,none⟩=some (Aj (Cg Y p)):=⟨ik,T⟩;refine Cv [7] [6,9] [] 11 (fun wq:World=>wq.cell? ⟨sb,72,none⟩=some (Aj Y)∧wq.cell? ⟨g,i*2+dd,none⟩=some (Aj (Cg Y p))) ?_
  iterate 7 (first|refine Be ?_|refine Bj y ?_)
  refine Bi fun K r=>?_;go_simp
  refine(Dy _ _ _ _ F.1 F.2).mono ?_;rintro e w5⟨rfl,rfl⟩;rw[HD.o];dsimp only;refine r _ _ (fun _=>y) ?_;clear r K
  iterate 3 (first|refine Be ?_|refine Bj y ?_)
  refine Bb ?_;clear T ik;have H1:=Aq H1.o.drew;have u:=Aq u.o.drew
  replace k:W.drew.cell? ⟨w.heap.size,1,none⟩=some (Aj (d:Int)):=k
  replace q:W.drew.cell? ⟨w.heap.size,2,none⟩=some (Aj (a:Int)):=q
  replace X:W.drew.cell? ⟨w.heap.size,3,none⟩=some (Aj (b:Int)):=X
  replace f:w.heap.size<W.drew.heap.size:=f
  clear y;generalize W.drew=W at *;go_wp2_with fail
  have fz:=H1.o.drew.aG.frozen d;have c0:=H1.o.drew.fQ P;have y:W.drew.cell? ⟨w.heap.size,1,none⟩=some (Aj (d:Int)):=k;refine Cv [7] [2] [] 8 (fun wq:World=>wq.cell? ⟨w.heap.size,1,none⟩=some (Aj (d:Int))) ?_
  iterate 7 (first|refine Be ?_|refine Bj y ?_)
  refine Bi fun K r=>?_;go_simp
  refine Bh r ?_;clear r K;refine Bb ?_;go_wp2;go_end0;exact R.o ▸ .put H1.o.drew u.o.drew P c1.o
 ·have O:cO s.m x=false:=by simpa using j
  have R:=Aq (show Ly s l d x = { s with aW:=s.aW.set d 0 } by unfold Ly;rw[if_neg j]);have E:=Aq O;clear h U V S hS N z C j O;go_enter Tryz.func138,Tryz.ntmps138;go_wp2_with fail
  generalize Z:w.alloc (.cells #[Aj op,Aj (d:Int),Aj (a:Int),Aj (b:Int),Aj n] 50)=W at *;obtain⟨r0,k,q,X,r4,H1,u,f⟩:=H.o.box Z;clear Z;have z:=H1.o.fQ D;rw[HX.o]at z;have y:W.drew.cell? ⟨w.heap.size,2,none⟩=some (Aj (a:Int))∧W.drew.cell? ⟨sb,a,none⟩=some (Aj x):=⟨q,z⟩;refine Cv [] [2,6] [] 9 (fun wq:World=>wq.cell? ⟨w.heap.size,2,none⟩=some (Aj (a:Int))∧wq.cell? ⟨sb,a,none⟩=some (Aj x)) ?_
  iterate 9 (first|refine Be ?_|refine Bj y ?_)
  refine Bb ?_;clear z;have H1:=Aq H1.o.drew;have u:=Aq u.o.drew
  replace k:W.drew.cell? ⟨w.heap.size,1,none⟩=some (Aj (d:Int)):=k
  replace q:W.drew.cell? ⟨w.heap.size,2,none⟩=some (Aj (a:Int)):=q
  replace X:W.drew.cell? ⟨w.heap.size,3,none⟩=some (Aj (b:Int)):=X
  replace f:w.heap.size<W.drew.heap.size:=f
  clear y;generalize W.drew=W at *;go_wp2_with fail
  refine(Fj _ _ _ _ H1.o _).mono ?_;rintro e w5⟨rfl,rfl⟩;rw[E.o];go_wp2_with fail
  have fz:=H1.o.drew.aG.frozen d;have c0:=H1.o.drew.fQ P;have y:W.drew.cell? ⟨w.heap.size,1,none⟩=some (Aj (d:Int)):=k;refine Cv [7] [2] [] 8 (fun wq:World=>wq.cell? ⟨w.heap.size,1,none⟩=some (Aj (d:Int))) ?_
  iterate 7 (first|refine Be ?_|refine Bj y ?_)
  refine Bi fun K r=>?_;go_simp
  refine Bh r ?_;clear r K;refine Bb ?_;go_wp2;go_end0;exact R.o ▸ .put H1.o.drew u.o.drew P ⟨by decide,by decide⟩
def Xj (s:Sr.St)(p d:Int):Sr.St:=if cO s.m p then { s with m:=bn s.m p.toNat s.m.move (Cg s.m.move (s.m.aF.getD p.toNat (0,0))+d) } else s
def mB (s:Sr.St)(p v:Int):Sr.St:=if s.m.look=s.m.move∧cO s.m p then { s with m:=bn s.m p.toNat s.m.move v } else s
def Jf (s:Sr.St)(p q:Int):Sr.St:=if s.m.look=s.m.move∧cO s.m p∧cO s.m q then { s with m:=bn s.m q.toNat s.m.move (Cg s.m.move (s.m.aF.getD p.toNat (0,0))) } else s
theorem Xb (w:World)(sb:Nat)(L:bN)(s:Sr.St)(h:ar w sb L s)(x d:Int)(Q:bI d):Calls Tryz.prog 141 #[.pointer (some ⟨sb,0,none⟩),Aj x,Aj d] w (bB w sb L (Xj s x d)):=by
 have H:=Aq h;have I:=h.aG.lt;have M:=h.ok.m.c_;unfold bI at Q;clear h;by_cases y:cO s.m x=true
 ·have r:=Aq y;obtain⟨i,rfl,n⟩:=Ip y;clear y;have k:=Aq (show Xj s i d = { s with m:=bn s.m i s.m.move (Cg s.m.move (s.m.aF.getD i (0,0))+d) } by unfold Xj;rw[if_pos r.o,Da]);have R:=Aq (fun (W:World) (q:ar W sb L s) (v:Int)=>Pa W sb L s q i v n);have f:=H.o.ok.m.move;obtain⟨g,c,x,Z,F,a,G,j,_⟩:=H.o.pt (p:=i) n;have C:bI (Cg s.m.move x):=by
   have:=H.o.ok.m.aF x (Bz a);unfold Cg;split
   ·exact this.2
   ·exact this.1
  have gw:=H.o.gw;rw[Z]at gw;have gk:=H.o.gk;have D:=j s.m.move;have B:=Aq (De (d:=(0,0)) a);unfold bI at C;clear j Z a F;generalize Y:s.m.move=u at *;have S:=Aq Y;clear Y;generalize V:(if u=1 then 1 else 0:Nat)=X at *;have E:=Aq V;clear V;rw[B.o]at k;go_enter Tryz.func141,Tryz.ntmps141;go_wp2_with fail
  refine(Fj _ _ _ _ H.o _).mono ?_;rintro e P⟨rfl,rfl⟩;rw[r.o];go_wp2_with fail
  have b:w.drew.cell? ⟨sb,65,none⟩=some (.slice (some ⟨g,0,none⟩) s.m.aF.length c)∧w.drew.cell? ⟨sb,73,none⟩=some (Aj u)∧w.drew.cell? ⟨g,i*2+X,none⟩=some (Aj (Cg u x)):=⟨gw,gk,D⟩;refine Bs (Cl [13,18]) (Bm [6,12,15]) (Bm []) [0,1,2,3,4,5,6,7,8,9,10,11,12,16,13,14,15,17,18] (fun wq:World=>wq.cell? ⟨sb,65,none⟩=some (.slice (some ⟨g,0,none⟩) s.m.aF.length c)∧wq.cell? ⟨sb,73,none⟩=some (Aj u)∧wq.cell? ⟨g,i*2+X,none⟩=some (Aj (Cg u x))) (by kernel_rfl) (by kernel_rfl) (by kernel_rfl) (by kernel_rfl) ?_
  iterate 14 (first|refine Be ?_|refine Bj b ?_)
  refine Bi fun K z=>?_;go_simp
  refine(Dy _ _ _ _ f.1 f.2).mono ?_;rintro e P⟨rfl,rfl⟩;rw[E.o];dsimp only;refine z _ _ (fun _=>b) ?_;clear z K
  iterate 3 (first|refine Be ?_|refine Bj b ?_)
  refine Bi fun K z=>?_;go_simp
  refine(R.o w.drew H.o.drew _).mono ?_;intro e J l;have A:=Aq (l.bQ (qF _ w).drew);obtain⟨rfl,_⟩:=l;dsimp only;refine Bh z ?_;clear z K;refine Bb ?_;go_wp2;go_end0;have q:=A.o;rw[Do _ (by omega)]at q;rw[k.o];exact S.o ▸ q
 ·have U:cO s.m x=false:=by simpa using y
  have k:=Aq (show Xj s x d=s by unfold Xj;rw[if_neg y]);have r:=Aq U;clear y U;rw[k.o];go_enter Tryz.func141,Tryz.ntmps141;go_wp2_with fail
  refine(Fj _ _ _ _ H.o _).mono ?_;rintro e P⟨rfl,rfl⟩;rw[r.o];go_wp2;go_end0;exact .dE H.o (qF _ w)
theorem Zey (w:World)(sb:Nat)(L:bN)(s:Sr.St)(h:ar w sb L s)(x v:Int):Calls Tryz.prog 143 #[.pointer (some ⟨sb,0,none⟩),Aj x,Aj v] w (bB w sb L (mB s x v)):=by
 have H:=Aq h;have g:=h.aG.lt;have l:=h.ok.m.c_;have ik:=h.ik;have gk:=h.gk;clear h;by_cases u:s.m.look=s.m.move
 ·rw[u]at ik;by_cases z:cO s.m x=true
  ·have q:=Aq z;obtain⟨i,rfl,b⟩:=Ip z;have k:=Aq (show mB s i v = { s with m:=bn s.m i s.m.move v } by unfold mB;rw[if_pos ⟨u,z⟩,Da]);clear z u;go_enter Tryz.func143,Tryz.ntmps143;go_wp2_with fail
   have y:w.drew.cell? ⟨sb,72,none⟩=some (Aj s.m.move)∧w.drew.cell? ⟨sb,73,none⟩=some (Aj s.m.move):=⟨ik,gk⟩;refine Cv [12] [3,7] [] 14 (fun wq:World=>wq.cell? ⟨sb,72,none⟩=some (Aj s.m.move)∧wq.cell? ⟨sb,73,none⟩=some (Aj s.m.move)) ?_
   iterate 11 (first|refine Be ?_|refine Bj y ?_)
   go_simp
   iterate 1 (first|refine Be ?_|refine Bj y ?_)
   refine Bi fun K p=>?_;go_simp
   refine(Fj _ _ _ _ H.o.drew _).mono ?_;rintro e c⟨rfl,rfl⟩;rw[q.o];dsimp only;refine Bh p ?_;clear p K
   iterate 1 (first|refine Be ?_|refine Bj y ?_)
   refine Bb ?_;go_wp2_with fail
   refine(Pa _ _ _ _ H.o.drew i v b).mono ?_;intro e j r;have d:=Aq (r.bQ (qF _ w).drew);obtain⟨rfl,_⟩:=r;go_wp2;go_end0;rw[k.o];exact d.o
  ·have a:cO s.m x=false:=by simpa using z
   have k:=Aq (show mB s x v=s by unfold mB;rw[if_neg (fun e=>z e.2)]);have q:=Aq a;clear z a u;go_enter Tryz.func143,Tryz.ntmps143;go_wp2_with fail
   have y:w.drew.cell? ⟨sb,72,none⟩=some (Aj s.m.move)∧w.drew.cell? ⟨sb,73,none⟩=some (Aj s.m.move):=⟨ik,gk⟩;refine Cv [12] [3,7] [] 14 (fun wq:World=>wq.cell? ⟨sb,72,none⟩=some (Aj s.m.move)∧wq.cell? ⟨sb,73,none⟩=some (Aj s.m.move)) ?_
   iterate 11 (first|refine Be ?_|refine Bj y ?_)
   go_simp
   iterate 1 (first|refine Be ?_|refine Bj y ?_)
   refine Bi fun K p=>?_;go_simp
   refine(Fj _ _ _ _ H.o.drew _).mono ?_;rintro e c⟨rfl,rfl⟩;rw[q.o];dsimp only;refine Bh p ?_;clear p K
   iterate 1 (first|refine Be ?_|refine Bj y ?_)
   refine Bb ?_;go_wp2;go_end0;rw[k.o];exact .dE H.o.drew (qF _ w).drew
 ·have f:(s.m.look==s.m.move)=false:=by simpa using u
  have k:=Aq (show mB s x v=s by unfold mB;rw[if_neg (fun e=>u e.1)]);clear u;go_enter Tryz.func143,Tryz.ntmps143;go_wp2_with fail
  have y:w.drew.cell? ⟨sb,72,none⟩=some (Aj s.m.look)∧w.drew.cell? ⟨sb,73,none⟩=some (Aj s.m.move):=⟨ik,gk⟩;refine Cv [] [3,7] [] 14 (fun wq:World=>wq.cell? ⟨sb,72,none⟩=some (Aj s.m.look)∧wq.cell? ⟨sb,73,none⟩=some (Aj s.m.move)) ?_
  iterate 10 (first|refine Be ?_|refine Bj y ?_)
  go_simp;refine Ci rfl rfl rfl (by kernel_rfl) (fun _ _ _ h=>h) ?_;refine Ci rfl rfl rfl (by kernel_rfl) (fun _ _ _ h=>h) ?_;refine Ci rfl rfl rfl (by kernel_rfl) (fun _ _ _ h=>h) ?_
  iterate 1 (first|refine Be ?_|refine Bj y ?_)
  refine Bb ?_;go_wp2;go_end0;rw[k.o];exact .dE H.o.drew (qF _ w).drew
theorem Xi (w:World)(sb:Nat)(L:bN)(s:Sr.St)(h:ar w sb L s)(x y:Int):Calls Tryz.prog 145 #[.pointer (some ⟨sb,0,none⟩),Aj x,Aj y] w (bB w sb L (Jf s x y)):=by
 have H:=Aq h;have G:=h.aG.lt;have hK:=h.ok.m.c_;have ik:=h.ik;have gk:=h.gk;clear h;by_cases r:s.m.look=s.m.move
 ·rw[r]at ik;by_cases q:cO s.m x=true
  ·have l:=Aq q;by_cases a:cO s.m y=true
   ·have n:=Aq a;obtain⟨i,rfl,N⟩:=Ip q;obtain⟨j,rfl,E⟩:=Ip a;have k:=Aq (show Jf s i j = { s with m:=bn s.m j s.m.move (Cg s.m.move (s.m.aF.getD i (0,0))) } by unfold Jf;rw[if_pos ⟨r,q,a⟩,Da,Da]);have B:=Aq (fun (W:World) (D:ar W sb L s) (v:Int)=>Pa W sb L s D j v E);clear q r a;go_enter Tryz.func145,Tryz.ntmps145;go_wp2_with fail
    have z:w.drew.cell? ⟨sb,72,none⟩=some (Aj s.m.move)∧w.drew.cell? ⟨sb,73,none⟩=some (Aj s.m.move):=⟨ik,gk⟩;refine Cv [12,17] [3,7] [] 19 (fun wq:World=>wq.cell? ⟨sb,72,none⟩=some (Aj s.m.move)∧wq.cell? ⟨sb,73,none⟩=some (Aj s.m.move)) ?_
    iterate 11 (first|refine Be ?_|refine Bj z ?_)
    go_simp
    iterate 1 (first|refine Be ?_|refine Bj z ?_)
    refine Bi fun K u=>?_;go_simp
    refine(Fj _ _ _ _ H.o.drew _).mono ?_;rintro e f⟨rfl,rfl⟩;rw[l.o];dsimp only;refine u _ _ (fun _=>z) ?_;clear u K
    iterate 3 (first|refine Be ?_|refine Bj z ?_)
    go_simp
    iterate 1 (first|refine Be ?_|refine Bj z ?_)
    refine Bi fun K u=>?_;go_simp
    refine(Fj _ _ _ _ H.o.drew _).mono ?_;rintro e f⟨rfl,rfl⟩;rw[n.o];dsimp only;refine Bh u ?_;clear u K
    iterate 1 (first|refine Be ?_|refine Bj z ?_)
    refine Bb ?_;clear z ik gk;have H1:=Aq H.o.drew;have I:=Aq (qF (eY L sb) w).drew;have hz:sb<w.drew.heap.size:=G;go_wp2_with fail
    generalize w.drew=W at *;have Y:=H.o.ok.m.move;obtain⟨g,c,x,R,hS,X,hg,Z,_⟩:=H1.o.pt (p:=i) N;have M:bI (Cg s.m.move x):=by
     have:=H.o.ok.m.aF x (Bz X);unfold Cg;split
     ·exact this.2
     ·exact this.1
    have gw:=H1.o.gw;rw[R]at gw;have gk:=H1.o.gk;have O:=Z s.m.move;have J:=Aq (De (d:=(0,0)) X);unfold bI at M;clear Z R X hS;generalize Q:s.m.move=b at *;have C:=Aq Q;clear Q;generalize A:(if b=1 then 1 else 0:Nat)=P at *;have T:=Aq A;clear A;rw[J.o]at k;have z:W.drew.cell? ⟨sb,65,none⟩=some (.slice (some ⟨g,0,none⟩) s.m.aF.length c)∧W.drew.cell? ⟨sb,73,none⟩=some (Aj b)∧W.drew.cell? ⟨g,i*2+P,none⟩=some (Aj (Cg b x)):=⟨gw,gk,O⟩;refine Cv [13,16] [6,12,15] [] 17 (fun wq:World=>wq.cell? ⟨sb,65,none⟩=some (.slice (some ⟨g,0,none⟩) s.m.aF.length c)∧wq.cell? ⟨sb,73,none⟩=some (Aj b)∧wq.cell? ⟨g,i*2+P,none⟩=some (Aj (Cg b x))) ?_
    iterate 13 (first|refine Be ?_|refine Bj z ?_)
    refine Bi fun K u=>?_;go_simp
    refine(Dy _ _ _ _ Y.1 Y.2).mono ?_;rintro e f⟨rfl,rfl⟩;rw[T.o];dsimp only;refine u _ _ (fun _=>z) ?_;clear u K
    iterate 2 (first|refine Be ?_|refine Bj z ?_)
    refine Bi fun K u=>?_;go_simp
    refine(B.o W.drew H1.o.drew _).mono ?_;intro e w9 U;have F:=Aq (U.bQ I.o.drew);obtain⟨rfl,_⟩:=U;dsimp only;refine Bh u ?_;clear u K;refine Bb ?_;go_wp2;go_end0;rw[k.o];exact C.o ▸ F.o
   ·have V:cO s.m y=false:=by simpa using a
    have k:=Aq (show Jf s x y=s by unfold Jf;rw[if_neg (fun e=>a e.2.2)]);have n:=Aq V;clear q r a V;go_enter Tryz.func145,Tryz.ntmps145;go_wp2_with fail
    have z:w.drew.cell? ⟨sb,72,none⟩=some (Aj s.m.move)∧w.drew.cell? ⟨sb,73,none⟩=some (Aj s.m.move):=⟨ik,gk⟩;refine Cv [12,17] [3,7] [] 19 (fun wq:World=>wq.cell? ⟨sb,72,none⟩=some (Aj s.m.move)∧wq.cell? ⟨sb,73,none⟩=some (Aj s.m.move)) ?_
    iterate 11 (first|refine Be ?_|refine Bj z ?_)
    go_simp
    iterate 1 (first|refine Be ?_|refine Bj z ?_)
    refine Bi fun K u=>?_;go_simp
    refine(Fj _ _ _ _ H.o.drew _).mono ?_;rintro e f⟨rfl,rfl⟩;rw[l.o];dsimp only;refine u _ _ (fun _=>z) ?_;clear u K
    iterate 3 (first|refine Be ?_|refine Bj z ?_)
    go_simp
    iterate 1 (first|refine Be ?_|refine Bj z ?_)
    refine Bi fun K u=>?_;go_simp
    refine(Fj _ _ _ _ H.o.drew _).mono ?_;rintro e f⟨rfl,rfl⟩;rw[n.o];dsimp only;refine Bh u ?_;clear u K
    iterate 1 (first|refine Be ?_|refine Bj z ?_)
    refine Bb ?_;go_wp2;go_end0;rw[k.o];exact .dE H.o.drew (qF _ w).drew
  ·have S:cO s.m x=false:=by simpa using q
   have k:=Aq (show Jf s x y=s by unfold Jf;rw[if_neg (fun e=>q e.2.1)]);have l:=Aq S;clear q S r;go_enter Tryz.func145,Tryz.ntmps145;go_wp2_with fail
   have z:w.drew.cell? ⟨sb,72,none⟩=some (Aj s.m.move)∧w.drew.cell? ⟨sb,73,none⟩=some (Aj s.m.move):=⟨ik,gk⟩;refine Cv [12] [3,7] [] 19 (fun wq:World=>wq.cell? ⟨sb,72,none⟩=some (Aj s.m.move)∧wq.cell? ⟨sb,73,none⟩=some (Aj s.m.move)) ?_
   iterate 11 (first|refine Be ?_|refine Bj z ?_)
   go_simp
   iterate 1 (first|refine Be ?_|refine Bj z ?_)
   refine Bi fun K u=>?_;go_simp
   refine(Fj _ _ _ _ H.o.drew _).mono ?_;rintro e f⟨rfl,rfl⟩;rw[l.o];dsimp only;refine Bh u ?_;clear u K
   iterate 2 (first|refine Be ?_|refine Bj z ?_)
   go_simp;refine Ci rfl rfl rfl (by kernel_rfl) (fun _ _ _ h=>h) ?_;refine Ci rfl rfl rfl (by kernel_rfl) (fun _ _ _ h=>h) ?_;refine Ci rfl rfl rfl (by kernel_rfl) (fun _ _ _ h=>h) ?_
   iterate 1 (first|refine Be ?_|refine Bj z ?_)
   refine Bb ?_;go_wp2;go_end0;rw[k.o];exact .dE H.o.drew (qF _ w).drew
 ·have hb:(s.m.look==s.m.move)=false:=by simpa using r
  have k:=Aq (show Jf s x y=s by unfold Jf;rw[if_neg (fun e=>r e.1)]);clear r;go_enter Tryz.func145,Tryz.ntmps145;go_wp2_with fail
  have z:w.drew.cell? ⟨sb,72,none⟩=some (Aj s.m.look)∧w.drew.cell? ⟨sb,73,none⟩=some (Aj s.m.move):=⟨ik,gk⟩;refine Cv [] [3,7] [] 19 (fun wq:World=>wq.cell? ⟨sb,72,none⟩=some (Aj s.m.look)∧wq.cell? ⟨sb,73,none⟩=some (Aj s.m.move)) ?_
  iterate 10 (first|refine Be ?_|refine Bj z ?_)
  go_simp;refine Ci rfl rfl rfl (by kernel_rfl) (fun _ _ _ h=>h) ?_;refine Ci rfl rfl rfl (by kernel_rfl) (fun _ _ _ h=>h) ?_;refine Ci rfl rfl rfl (by kernel_rfl) (fun _ _ _ h=>h) ?_
  iterate 2 (first|refine Be ?_|refine Bj z ?_)
  go_simp;refine Ci rfl rfl rfl (by kernel_rfl) (fun _ _ _ h=>h) ?_;refine Ci rfl rfl rfl (by kernel_rfl) (fun _ _ _ h=>h) ?_;refine Ci rfl rfl rfl (by kernel_rfl) (fun _ _ _ h=>h) ?_
  iterate 1 (first|refine Be ?_|refine Bj z ?_)
  refine Bb ?_;go_wp2;go_end0;rw[k.o];exact .dE H.o.drew (qF _ w).drew
theorem s40 (x:Int)(w:World):Calls Tryz.prog 105 #[Aj x] w fun e w'=>e=.returned (Aj x)∧w=w':=by
 go_enter Tryz.func105,Tryz.ntmps105;go_wp2;go_ret;exact⟨rfl,rfl⟩
theorem s5 (x y:Int)(w:World)(u:bI x)(z:bI y):Calls Tryz.prog 107 #[Aj x,Aj y] w fun e w'=>e=.returned (Aj (x+y))∧w=w':=by
 unfold bI at u z;go_enter Tryz.func107,Tryz.ntmps107;go_wp2;go_ret;exact⟨rfl,rfl⟩
theorem s6 (x y:Int)(w:World)(u:bI x)(z:bI y):Calls Tryz.prog 108 #[Aj x,Aj y] w fun e w'=>e=.returned (Aj (x-y))∧w=w':=by
 unfold bI at u z;go_enter Tryz.func108,Tryz.ntmps108;go_wp2;go_ret;exact⟨rfl,rfl⟩
theorem s7 (x y:Int)(w:World)(u:bI x)(z:bI y):Calls Tryz.prog 109 #[Aj x,Aj y] w fun e w'=>e=.returned (Aj (bA (x*y / 64)))∧w=w':=by
 unfold bI at u z;have v:=Aq (Zhn u z);go_enter Tryz.func109,Tryz.ntmps109;go_wp2_with fail
 refine(Ed _ _).mono ?_;rintro e w1⟨rfl,rfl⟩;go_wp2;go_ret;exact⟨Co (by rw[v.o]),rfl⟩
theorem s8 (x y:Int)(w:World)(z:bI x)(_hy:bI y):Calls Tryz.prog 110 #[Aj x,Aj y] w fun e w'=>e=.returned (Aj (bA (eT (64*x) y)))∧w=w':=by
 unfold bI at z _hy;go_enter Tryz.func110,Tryz.ntmps110;go_wp2_with fail
 refine(Ih _ _ _).mono ?_;rintro e w1⟨rfl,rfl⟩;go_wp2_with fail
 refine(Ed _ _).mono ?_;rintro e w1⟨rfl,rfl⟩;go_wp2;go_ret;have u:=Zcy (a:=64*x) (b:=y) (by omega) (by omega);exact⟨Co (by rw[Je (by omega) (by omega)]),rfl⟩
theorem s9 (x:Int)(w:World)(y:bI x):Calls Tryz.prog 112 #[Aj x] w fun e w'=>e=.returned (Aj (-x))∧w=w':=by
 unfold bI at y;go_enter Tryz.func112,Tryz.ntmps112;go_wp2;go_ret;exact⟨rfl,rfl⟩
theorem s10 (x:Int)(w:World)(y:bI x):Calls Tryz.prog 113 #[Aj x] w fun e w'=>e=.returned (Aj (max x (-x)))∧w=w':=by
 unfold bI at y;go_enter Tryz.func113,Tryz.ntmps113;go_wp2
 all_goals
  go_ret;exact⟨Co (by omega),rfl⟩
theorem s11 (x y:Int)(w:World)(_hx:bI x)(_hy:bI y):Calls Tryz.prog 114 #[Aj x,Aj y] w fun e w'=>e=.returned (Aj (min x y))∧w=w':=by
 unfold bI at _hx _hy;go_enter Tryz.func114,Tryz.ntmps114;go_wp2
 all_goals
  go_ret;exact⟨Co (by omega),rfl⟩
theorem s12 (x y:Int)(w:World)(_hx:bI x)(_hy:bI y):Calls Tryz.prog 115 #[Aj x,Aj y] w fun e w'=>e=.returned (Aj (max x y))∧w=w':=by
 unfold bI at _hx _hy;go_enter Tryz.func115,Tryz.ntmps115;go_wp2
 all_goals
  go_ret;exact⟨Co (by omega),rfl⟩
theorem s13 (x:Int)(w:World)(_hx:bI x):Calls Tryz.prog 116 #[Aj x] w fun e w'=>e=.returned (Aj (Db 4 x))∧w=w':=by
 unfold bI at _hx;go_enter Tryz.func116,Tryz.ntmps116;go_wp2_with fail
 refine(Fy _ _ _).mono ?_;rintro e w1⟨rfl,rfl⟩;go_wp2;go_ret;exact⟨rfl,rfl⟩
theorem s14 (x:Int)(w:World)(_hx:bI x):Calls Tryz.prog 118 #[Aj x] w fun e w'=>e=.returned (Aj (Db 5 x))∧w=w':=by
 unfold bI at _hx;go_enter Tryz.func118,Tryz.ntmps118;go_wp2_with fail
 refine(Fy _ _ _).mono ?_;rintro e w1⟨rfl,rfl⟩;go_wp2;go_ret;exact⟨rfl,rfl⟩
theorem s16 (x y:Int)(w:World)(_hx:bI x)(_hy:bI y):Calls Tryz.prog 120 #[Aj x,Aj y] w fun e w'=>e=.returned (Aj (bC (decide (x<y))))∧w=w':=by
 unfold bI at _hx _hy;go_enter Tryz.func120,Tryz.ntmps120;go_wp2_with fail
 refine(Gm _ _).mono ?_;rintro e w1⟨rfl,rfl⟩;go_wp2;go_ret;exact⟨Co (by first|rfl|(congr 1;simp)),rfl⟩
theorem s17 (x y:Int)(w:World)(_hx:bI x)(_hy:bI y):Calls Tryz.prog 122 #[Aj x,Aj y] w fun e w'=>e=.returned (Aj (bC (decide (x≤y))))∧w=w':=by
 unfold bI at _hx _hy;go_enter Tryz.func122,Tryz.ntmps122;go_wp2_with fail
 refine(Gm _ _).mono ?_;rintro e w1⟨rfl,rfl⟩;go_wp2;go_ret;exact⟨Co (by first|rfl|(congr 1;simp)),rfl⟩
theorem s18 (x y:Int)(w:World)(_hx:bI x)(_hy:bI y):Calls Tryz.prog 123 #[Aj x,Aj y] w fun e w'=>e=.returned (Aj (bC (decide (x=y))))∧w=w':=by
 unfold bI at _hx _hy;go_enter Tryz.func123,Tryz.ntmps123;go_wp2_with fail
 refine(Gm _ _).mono ?_;rintro e w1⟨rfl,rfl⟩;go_wp2;go_ret;exact⟨Co (by first|rfl|(congr 1;simp)),rfl⟩
theorem s19 (x:Int)(w:World)(_hx:bI x):Calls Tryz.prog 124 #[Aj x] w fun e w'=>e=.returned (Aj (bC (decide (x=0))))∧w=w':=by
 unfold bI at _hx;go_enter Tryz.func124,Tryz.ntmps124;go_wp2_with fail
 refine(Gm _ _).mono ?_;rintro e w1⟨rfl,rfl⟩;go_wp2;go_ret;exact⟨Co (by first|rfl|(congr 1;simp)),rfl⟩
theorem s20 (x y:Int)(w:World)(k:bI x)(u:bI y):Calls Tryz.prog 125 #[Aj x,Aj y] w fun e w'=>e=.returned (Aj (bC (decide (x≠0∧y≠0))))∧w=w':=by
 unfold bI at k u;rcases Decidable.em (x=0) with h|h <;> rcases Decidable.em (y=0) with z|z
 all_goals
  have v:=Aq (show bC (decide (x≠0∧y≠0))=bC (decide (x≠0) && decide (y≠0)) by simp)
  first|subst h|have p:(x != 0)=true:=by simp[h]
  first|subst z|have q:(y != 0)=true:=by simp[z]
  go_enter Tryz.func125,Tryz.ntmps125;go_wp2_with fail
  refine(Gm _ _).mono ?_;rintro e w1⟨rfl,rfl⟩;go_wp2;go_ret;rw[v.o];refine⟨Co ?_,rfl⟩
  simp_all
theorem s21 (x y:Int)(w:World)(k:bI x)(u:bI y):Calls Tryz.prog 126 #[Aj x,Aj y] w fun e w'=>e=.returned (Aj (bC (decide (x≠0∨y≠0))))∧w=w':=by
 unfold bI at k u;rcases Decidable.em (x=0) with h|h <;> rcases Decidable.em (y=0) with z|z
 all_goals
  have v:=Aq (show bC (decide (x≠0∨y≠0))=bC (decide (x≠0) || decide (y≠0)) by simp)
  first|subst h|have p:(x != 0)=true:=by simp[h]
  first|subst z|have q:(y != 0)=true:=by simp[z]
  go_enter Tryz.func126,Tryz.ntmps126;go_wp2_with fail
  refine(Gm _ _).mono ?_;rintro e w1⟨rfl,rfl⟩;go_wp2;go_ret;rw[v.o];refine⟨Co ?_,rfl⟩
  simp_all
end
end Go.Proofs.YtnhebmgibiomnaaGreat
