import Derived.Test.YtnhebmgibiomnaaGreatPh6
set_option linter.unusedVariables false
set_option linter.unusedSimpArgs false
set_option maxRecDepth 100000
set_option maxHeartbeats 8000000
namespace Go.Proofs.YtnhebmgibiomnaaGreat
section
open Go.RowKit Mc
theorem Gp (w:World)(mb:Nat)(O:Nat→Prop)(L:bd)(s:St)(h:ag w mb O L s)(p:Int) :
  Calls Tryz.prog 252 #[.pointer (some ⟨mb,0,none⟩),Aj p] w fun e w'=>e=.returned (.bool (cJ s p))∧w=w':=by
 obtain⟨A,c,y,z,u⟩:=h.cu.form;have v:=h.aG.cell 3;rw[h.c.c3,y]at v;have q:=h.ok.cX;have x:Hid (cJ s p=decide (0≤p∧p<s.aF.length)):=Aq rfl;clear h y z u;by_cases k:0≤p
 ·by_cases r:p<s.aF.length
  ·go_enter Tryz.func252,Tryz.ntmps252;go_wp2;go_ret;exact⟨Cs (by rw[x.o];simp;omega),rfl⟩
  ·go_enter Tryz.func252,Tryz.ntmps252;go_wp2;go_ret;exact⟨Cs (by rw[x.o];simp;omega),rfl⟩
 ·go_enter Tryz.func252,Tryz.ntmps252;go_wp2;go_ret;exact⟨Cs (by rw[x.o];simp;omega),rfl⟩
theorem Ek {l:List (Int×Int)} {i:Nat} {v:Int×Int} (h:l[i]?=some v) (axis:Int):(bq l)[i*2+(if axis=1 then 1 else 0)]?=some (Aj (Cf axis v)):=by
 have:=Fy h;unfold Cf;split
 ·rw[oB];exact this.2
 ·rw[oB];exact this.1
def Mg (s:St) (l:List (Int×Int)) (x:Int):Int:=if cJ s x then Cf s.look (l.getD x.toNat (0,0)) else 0
theorem Zbj {s:St} {l:List (Int×Int)} {i:Nat} {v:Int×Int} (h:cJ s i=true) (x:l[i]?=some v):Mg s l i=Cf s.look v:=by
 unfold Mg;rw[if_pos h,Cw,Bn,x];rfl
theorem Zfr {s:St} {l:List (Int×Int)} {x:Int} (h:¬ cJ s x=true):Mg s l x=0:=by unfold Mg;rw[if_neg h]
theorem Pw (w:World)(mb:Nat)(O:Nat→Prop)(L:bd)(s:St)(h:ag w mb O L s)(x:Int)(r:List Int)(U:s.stack=x::r)(A:Option Addr) (l:List (Int×Int)) (c:Nat) (V:l.length=s.aF.length)
  (R:dK w O 76 2 (.slice A l.length c) l.length (bq l)) :
  Calls Tryz.prog 205 #[.pointer (some ⟨mb,0,none⟩),.slice A l.length c] w (aw w mb O (push (Mg s l x) { s with stack:=r })):=by
 have H:=Aq h;have B:=Aq U;have T:=h.ok.dg;rw[U,Bo]at T;have ht:=h.ok.cX;rw[←V]at ht;have hh:=h.ok.look;have C:=Aq R;have I:=Aq V;clear h U R V;by_cases p:cJ s x=true
 ·have Y:=Aq p;have a:=p;simp only[cJ,decide_eq_true_eq]at a;rw[←I.o]at a;obtain⟨i,rfl⟩:∃i:Nat,x=i:=⟨x.toNat,by omega⟩;have HM:i<l.length:=by omega
  obtain⟨g,c',q,_,_,M,_⟩:=C.o.aK (by omega)
  injection q with q _ n
  subst q n;obtain⟨v,q⟩:∃v,l[i]?=some v:=⟨_,Bg HM⟩;have G:=Aq q;clear p a q M;go_enter Tryz.func205,Tryz.ntmps205;go_wp2_with fail
  refine(Dx w mb O L s H.o _ r B.o _).mono ?_;rintro e w'⟨rfl,z,y⟩;obtain⟨f,b⟩:=z.ma;have k:=Aq b;have Z:=Aq z;have hM:=z.lt;have X:=y.cell 0;have W:=y.lt;have hv:=y.frozen 0;simp only[Az,Ay]at X;clear z b y;go_wp2_with fail
  refine(Gp w' mb O f _ k.o _).mono ?_;rintro e E⟨rfl,rfl⟩;have m:cJ { s with stack:=r } (i:Int)=true:=Y.o;rw[m];clear m;go_wp2_with fail
  have dH:=k.o.aG.cell 42;rw[k.o.c.dH]at dH;dsimp only at dH;obtain⟨g2,c2,u,_,_,hO,hp,n,hf⟩:=(Z.o.row (by decide) C.o).aK (by omega)
  injection u with u
  injection u with u
  injection u with u
  subst u;have F:=n _ _ (Ek G.o s.look);clear n hf;generalize D:(if s.look=1 then 1 else 0:Nat)=d at F;have N:=Aq D;clear D;have Q:w'.drew.cell? ⟨mb,42,none⟩=some (Aj s.look)∧w'.drew.cell? ⟨w.heap.size,0,none⟩=some (Aj i)∧w'.drew.cell? ⟨g,i*2+d,none⟩=some (Aj (Cf s.look v)):=⟨dH,X,F⟩;refine Cr [7] [1,6,9] [] 11 (fun w':World=>w'.cell? ⟨mb,42,none⟩=some (Aj s.look)∧w'.cell? ⟨w.heap.size,0,none⟩=some (Aj i)∧w'.cell? ⟨g,i*2+d,none⟩=some (Aj (Cf s.look v))) ?_;refine Be ?_;refine Bj Q ?_
  iterate 4 (refine Be ?_)
  refine Bj Q ?_;refine Bi fun K S=>?_;go_simp
  refine(Cu _ _ _ _).mono ?_;rintro e E⟨rfl,rfl⟩;rw[N.o];dsimp only;refine Bh S ?_;clear S K;refine Be ?_;refine Bj Q ?_;refine Be ?_;refine Bb ?_;have J:=Aq k.o.drew;have L':=Aq Z.o.fr.drew;go_wp2_with fail
  refine(Ec w'.drew mb O f _ J.o _ (by simp only;omega)).mono ?_;intro e w9 j;have P:=Aq (j.bL L'.o);obtain⟨rfl,_⟩:=j;go_wp2;go_end0;rw[Zbj Y.o G.o];exact P.o
 ·have Y:=Aq p;have a:cJ s x=false:=by simpa using p
  have hx:=Aq a;clear p a;go_enter Tryz.func205,Tryz.ntmps205;go_wp2_with fail
  refine(Dx w mb O L s H.o _ r B.o _).mono ?_;rintro e w'⟨rfl,z,y⟩;obtain⟨f,b⟩:=z.ma;have k:=Aq b;have Z:=Aq z;have hM:=z.lt;have X:=y.cell 0;have W:=y.lt;have hv:=y.frozen 0;simp only[Az,Ay]at X;clear z b y;go_wp2_with fail
  refine(Gp w' mb O f _ k.o _).mono ?_;rintro e E⟨rfl,rfl⟩;have m:cJ { s with stack:=r } x=false:=hx.o;rw[m];clear m;go_wp2_with fail
  refine(Ec w' mb O f _ k.o _ (by simp only;omega)).mono ?_;intro e w9 j;have P:=Aq (j.bL Z.o.fr);obtain⟨rfl,_⟩:=j;go_wp2;go_end0;rw[Zfr Y.o];exact P.o
theorem Zfy (w:World)(mb:Nat)(O:Nat→Prop)(L:bd)(s:St)(h:ag w mb O L s)(a x:Int)(r:List Int)(u:s.stack=x::r) :
  Calls Tryz.prog 204 #[.pointer (some ⟨mb,0,none⟩),Aj a] w (aw w mb O (push (Mg s s.aF x) { s with stack:=r })):=by
 obtain⟨A,c,y,p,q⟩:=h.cu.form;have d:=h.aG.cell 3;rw[h.c.c3,y]at d;have z:=h.cu;rw[y]at z;have b:=Aq (Pw w mb O L s h x r u A s.aF c rfl z);clear h u y p q z;go_enter Tryz.func204,Tryz.ntmps204;go_wp2_with fail
 refine b.o.mono ?_;intro e f v;have k:=Aq v;obtain⟨rfl,_⟩:=v;go_wp2;go_end0;exact k.o
theorem Zfd (w:World)(mb:Nat)(O:Nat→Prop)(L:bd)(s:St)(h:ag w mb O L s)(a x:Int)(r:List Int)(u:s.stack=x::r) :
  Calls Tryz.prog 206 #[.pointer (some ⟨mb,0,none⟩),Aj a] w (aw w mb O (push (Mg s s.aT x) { s with stack:=r })):=by
 obtain⟨A,c,y,q,b⟩:=h.og.form;have k:=h.aG.cell 2;rw[h.c.c2,y]at k;have z:=h.og;rw[y]at z;have d:=Aq (Pw w mb O L s h x r u A s.aT c h.ok.dL z);clear h u y q b z;go_enter Tryz.func206,Tryz.ntmps206;go_wp2_with fail
 refine d.o.mono ?_;intro e f v;have p:=Aq v;obtain⟨rfl,_⟩:=v;go_wp2;go_end0;exact p.o
theorem Zae:∀{l:List (Int×Int)} {i:Nat} {x:Int×Int} (_:l[i]?=some x) (axis v:Int),bq (l.set i (fp axis x v))=(bq l).set (i*2+(if axis=1 then 1 else 0)) (Aj (bA v))
 |a::l,0,x,h,axis,v=>by
  simp only[Ay,Bv]at h;subst h;unfold fp;split <;> simp[bq]
 |a::l,i+1,x,h,axis,v=>by
  have y:=Zae (l:=l) (i:=i) (x:=x) h axis v;have:(bq (a::l)).set ((i+1)*2+(if axis=1 then 1 else 0)) (Aj (bA v))=Aj a.1::Aj a.2::(bq l).set (i*2+(if axis=1 then 1 else 0)) (Aj (bA v)):=by
   rw[show (i+1)*2+(if axis=1 then 1 else 0)=(i*2+(if axis=1 then 1 else 0))+1+1 by omega];rfl
  rw[this,←y];rfl
 | [],i,x,h,_,_=>by simp at h
section
variable {w w' : World} {mb : Nat} {O : Nat → Prop} {L : bd} {s : St}
theorem Mc.Ok.kX (h:Ok s) {l:List (Int×Int)} (z:∀p∈l,bI p.1∧bI p.2) (x:l.length=s.aF.length):Ok { s with aF:=l } :=
 ⟨h.stack,h.dg,h.aP,h.store,h.dR,z,h.aT,by rw[h.dL];exact x.symm,h.aB,by rw[h.tl];exact x.symm,h.size,h.look,h.move,h.bG,h.aL,h.aD,h.fW,h.funcs,h.jy,fun c y=>by have:=h.bH c y;simp only[x];exact this,h.ej,by rw[x];exact h.cX,h.iC,h.fY⟩
theorem Mc.Ok.jQ (h:Ok s){l:List Int}(y:∀t∈l,0≤t∧t≤3)(x:l.length=s.aB.length):Ok { s with aB:=l } :=
 ⟨h.stack,h.dg,h.aP,h.store,h.dR,h.aF,h.aT,h.dL,y,by rw[←h.tl];exact x,h.size,h.look,h.move,h.bG,h.aL,h.aD,h.fW,h.funcs,h.jy,h.bH,h.ej,h.cX,h.iC,h.fY⟩
theorem to_k (axis:Int)(p:Int×Int)(v:Int)(h:bI p.1∧bI p.2):bI (fp axis p v).1∧bI (fp axis p v).2:=by
 unfold fp;split
 ·exact⟨h.1,Fg v⟩
 ·exact⟨Fg v,h.2⟩
theorem ag.ix (h:ag w mb O L s){g m c:Nat} (q:L.cu=.slice (some ⟨g,0,none⟩) m c) {i:Nat} {x:Int×Int} (hi:s.aF[i]?=some x) (axis v:Int):ag (w.setCell ⟨g,i*2+(if axis=1 then 1 else 0),none⟩ (Aj (bA v))) mb O L { s with aF:=s.aF.set i (fp axis x v) } := by
 have bU:L.cu.ownBlock=some g:=by rw[q];rfl
 have u:g≠mb:=h.cu.bz h.aG (by decide) bU;have r:=(aS.1 hi).1;refine h.kX (by simp) ?_ (Bp _ _ _ _ u.symm) (fun k _ _ z=>Bp _ _ _ _ (fun e=>z (by rw[bU,e]))) (fun _ h=>h) (fun k z=>by have:=h.eQ k z;simpa [World.setCell]using this) (h.ok.kX (fun p y=>?_) (by simp))
 ·rw[Zae hi];refine h.cu.aZ bU (by rw[Ia];split <;> omega) _
 ·rcases oE y with y|rfl
  ·exact h.ok.aF p y
  ·exact to_k _ _ _ (h.ok.aF x (Bx hi))
theorem ag.kO (h:ag w mb O L s){g m c:Nat} (v:L.to=.slice (some ⟨g,0,none⟩) m c) {i:Nat} (hi:i<s.aB.length) {t:Int} (z:0≤t∧t≤3):ag (w.setCell ⟨g,i,none⟩ (Aj t)) mb O L { s with aB:=s.aB.set i t } := by
 have bU:L.to.ownBlock=some g:=by rw[v];rfl
 have u:g≠mb:=h.to.bz h.aG (by decide) bU;refine h.jQ (by simp) ?_ (Bp _ _ _ _ u.symm) (fun k _ _ y=>Bp _ _ _ _ (fun e=>y (by rw[bU,e]))) (fun _ h=>h) (fun k y=>by have:=h.eQ k y;simpa [World.setCell]using this) (h.ok.jQ (fun p x=>?_) (by simp))
 ·rw[Gd];exact h.to.aZ bU (by rw[Dc];exact hi) _
 ·rcases oE x with x|rfl
  ·exact h.ok.aB p x
  ·exact z
end
def Yi (axis t:Int):Int:=if bit axis t then t else t+(axis+1)
theorem Yw {axis t:Int}(u:0≤axis∧axis≤1)(z:0≤t∧t≤3):0≤Yi axis t∧Yi axis t≤3:=by
 obtain⟨q,p⟩:=u;obtain⟨k,v⟩:=z;have y:axis=0∨axis=1:=by omega
 have x:t=0∨t=1∨t=2∨t=3:=by omega
 rcases y with rfl|rfl <;> rcases x with rfl|rfl|rfl|rfl <;> decide
theorem Rn {axis t:Int}(u:0≤axis∧axis≤1)(z:0≤t∧t≤3):bits BinOp.or IntKind.i64 t (axis+1)=Yi axis t:=by
 obtain⟨q,p⟩:=u;obtain⟨k,v⟩:=z;have y:axis=0∨axis=1:=by omega
 have x:t=0∨t=1∨t=2∨t=3:=by omega
 rcases y with rfl|rfl <;> rcases x with rfl|rfl|rfl|rfl <;> rfl
theorem Sk (w:World)(mb:Nat)(O:Nat→Prop)(L:bd)(s:St)(h:ag w mb O L s)(p:Nat)(axis v:Int)(Z:p<s.aF.length)(b:0≤axis∧axis≤1) :
  Calls Tryz.prog 254 #[.pointer (some ⟨mb,0,none⟩),Aj p,Aj axis,Aj v] w (aw w mb O (bm s p axis v)):=by
 obtain⟨x,r⟩:∃x,s.aF[p]?=some x:=⟨_,Bg Z⟩;have X:p<s.aB.length:=by rw[h.ok.tl];exact Z
 obtain⟨t,q⟩:∃t,s.aB[p]?=some t:=⟨_,Bg X⟩;obtain⟨g,c,y,hx,F,B,hS,l,H⟩:=h.cu.aK (by omega);have J:=l _ _ (Ek r axis);have M:=H (p*2+(if axis=1 then 1 else 0));have R:=h.aG.cell 3;rw[h.c.c3,y]at R;obtain⟨gt,n,a,c4,N,I,hv,P,S⟩:=h.to.aK (by omega);have j:=P _ _ (Ck q);have A:=S p;have f:=h.aG.cell 4;rw[h.c.c4,a]at f;have C:gt≠g:=fun e=>h.to.apart h.cu (by decide) g (by rw[a,e];rfl) (by rw[y];rfl)
 have ht:mb≠g:=fun e=>h.cu.bz h.aG (by decide) (show L.cu.ownBlock=some g by rw[y];rfl) e.symm
 have V:=h.ix y r axis v;have m:=V.drew.kO a X (Yw b (h.ok.aB t (Bx q)));have Q:Fr O w ((w.setCell ⟨g,p*2+(if axis=1 then 1 else 0),none⟩ (Aj (bA v))).drew.setCell ⟨gt,p,none⟩ (Aj (Yi axis t))):=((qu O w).setCell (.inl B) _).drew.setCell (.inl I) _;have i:{ s with aF:=s.aF.set p (fp axis x v),aB:=s.aB.set p (Yi axis t) } = bm s p axis v:=by
  unfold bm Yi;rw[Bn,Bn,r,q];rfl
 have E:Hid (aw w mb O (bm s p axis v) (.returned (.tuple #[])) ((w.setCell ⟨g,p*2+(if axis=1 then 1 else 0),none⟩ (Aj (bA v))).drew.setCell ⟨gt,p,none⟩ (Aj (Yi axis t)))):=Aq (by rw[←i];exact .dD m Q);have G:=h.ok.aB t (Bx q);have ha:=h.ok.cX;have T:=h.ok.tl;have hq:s.aB.length≤1000000:=by omega
 have _hmbl:=h.aG.lt;clear h V m Q i l H P S y a r q T F N;generalize Y:(if axis=1 then 1 else 0:Nat)=d at *;have D:=Aq Y;clear Y;go_enter Tryz.func254,Tryz.ntmps254;go_wp2_with fail
 refine(Cu _ _ _ _).mono ?_;rintro e U⟨rfl,rfl⟩;rw[D.o];go_wp2_with fail
 refine(Iq _ _).mono ?_;rintro e U⟨rfl,rfl⟩;go_wp2_with fail
 have z:(w.setCell ⟨g,p*2+d,none⟩ (Aj (bA v))).drew.cell? ⟨mb,4,none⟩=some (.slice (some ⟨gt,0,none⟩) s.aB.length n)∧(w.setCell ⟨g,p*2+d,none⟩ (Aj (bA v))).drew.cell? ⟨gt,p,none⟩=some (Aj t) :=
  ⟨(mt _ _ _ _ (fun e=>by injection e with e;omega)).trans f,(mt _ _ _ _ (fun e=>by injection e with e;omega)).trans j⟩
 have hF:(w.setCell ⟨g,p*2+d,none⟩ (Aj (bA v))).drew.frozen? ⟨gt,p,none⟩=false:=((qu (fun k=>k=g) w).setCell (p:=⟨g,p*2+d,none⟩) (.inl rfl) _).drew.frozen (p:=⟨gt,p,none⟩) hv C |>.trans A;clear J M R f j A;generalize (w.setCell ⟨g,p*2+d,none⟩ (Aj (bA v)))=W at *;have t0:=z.1;have hK:=z.2;refine Cr [9,12] [4,7] [9] 13 (fun w':World=>w'.cell? ⟨mb,4,none⟩=some (.slice (some ⟨gt,0,none⟩) s.aB.length n)∧w'.cell? ⟨gt,p,none⟩=some (Aj t)) ?_
 iterate 4 (refine Be ?_)
 refine Bj z ?_;refine Be ?_;refine Be ?_;refine Bj z ?_;refine Be ?_;refine Bi fun K u=>?_;go_simp
 refine(Lm _ _ b.1 b.2).mono ?_;rintro e U⟨rfl,rfl⟩;dsimp only;refine u _ _ (fun _=>z) ?_;clear u K;refine Be ?_;refine Be ?_;refine Bi fun K u=>?_;go_simp
 rw[Rn b G];refine Bh u ?_;clear u K;refine Bb ?_;go_wp2;go_end0;exact E.o
section
variable {w w' : World} {mb : Nat} {O : Nat → Prop} {L : bd} {s : St}
theorem ag.pt (h:ag w mb O L s){p:Nat}(v:p<s.aF.length):∃g c x,L.cu=.slice (some ⟨g,0,none⟩) s.aF.length c∧s.aF.length≤c∧s.aF[p]?=some x∧g<w.heap.size∧∀axis,w.cell? ⟨g,p*2+(if axis=1 then 1 else 0),none⟩=some (Aj (Cf axis x)):=by
 obtain⟨x,y⟩:∃x,s.aF[p]?=some x:=⟨_,Bg v⟩;obtain⟨g,c,k,z,r,b,u,q,a⟩:=h.cu.aK (by omega);exact⟨g,c,x,k,z,y,u,fun axis=>q _ _ (Ek y axis)⟩
end
def Qt (s:St)(r:List Int)(p:Int)(d:Int):St:=if cJ s p then bm { s with stack:=r } p.toNat s.move (Cf s.move (s.aF.getD p.toNat (0,0))+d) else { s with stack:=r }
theorem Zfi {s:St}{r:List Int}{p d:Int}(h:¬ cJ s p=true):Qt s r p d = { s with stack:=r } := by unfold Qt;rw[if_neg h]
theorem Zba {s:St}{r:List Int}{i:Nat}{d:Int}{x:Int×Int}(h:cJ s i=true) (y:s.aF[i]?=some x):Qt s r i d=bm { s with stack:=r } i s.move (Cf s.move x+d):=by
 unfold Qt;rw[if_pos h,Cw,Da y]
theorem Zf (w:World)(mb:Nat)(O:Nat→Prop)(L:bd)(s:St)(h:ag w mb O L s)(x y:Int)(r:List Int)(m:s.stack=y::x::r) :
  Calls Tryz.prog 208 #[.pointer (some ⟨mb,0,none⟩)] w (aw w mb O (Qt s r x y)):=by
 have H:=Aq h;have C:=Aq m;have M:=h.ok.stack y (by rw[m];simp);unfold bI at M;have hs:=h.ok.cX;by_cases b:cJ s x=true
 ·have Z:=Aq b;have z:=b;simp only[cJ,decide_eq_true_eq]at z;obtain⟨i,rfl⟩:∃i:Nat,x=i:=⟨x.toNat,by omega⟩;have Q:i<s.aF.length:=by omega
  obtain⟨pt,P⟩:∃x,s.aF[i]?=some x:=⟨_,Bg Q⟩;have hk : -2147483648≤Cf s.move pt∧Cf s.move pt≤2147483647:=by
   have:=h.ok.aF pt (Bx P);unfold Cf;split
   ·exact this.2
   ·exact this.1
  have A:=Aq P;have N:=h.ok.move;clear h m b z P;go_enter Tryz.func208,Tryz.ntmps208;go_wp2_with fail
  refine(Du w mb O L s H.o _ y r C.o _ _).mono ?_;rintro e w'⟨rfl,q,k,v⟩;obtain⟨Y,f⟩:=q.ma;have u:=Aq f;have R:=Aq q;have hK:=q.lt;have X:=k.cell 0;have HM:=k.lt;have hM:=k.frozen 0;have n:=v.cell 0;have J:=v.lt;have ht:=v.frozen 0;simp only[Az,Ay]at X n;clear q f k v;go_wp2_with fail
  refine(Gp w' mb O Y _ u.o _).mono ?_;rintro e F⟨rfl,rfl⟩;have l:cJ { s with stack:=r } (i:Int)=true:=Z.o;rw[l];clear l;go_wp2_with fail
  have dO:=u.o.aG.cell 43;rw[u.o.c.dO]at dO;dsimp only at dO;obtain⟨g,c,U,V,hS,z,hh,S⟩:=u.o.pt (p:=i) Q;dsimp only at z V hS;obtain rfl:U=pt:=by rw[A.o]at z;injection z with z;exact z.symm
  have I:=u.o.aG.cell 3;rw[u.o.c.c3,V]at I;have G:=S s.move;clear S z V;generalize D:(if s.move=1 then 1 else 0:Nat)=d at G;have T:=Aq D;clear D;have a:w'.drew.cell? ⟨mb,43,none⟩=some (Aj s.move)∧w'.drew.cell? ⟨mb,3,none⟩=some (.slice (some ⟨g,0,none⟩) s.aF.length c)∧w'.drew.cell? ⟨w.heap.size,0,none⟩=some (Aj i)∧w'.drew.cell? ⟨w.heap.size+1,0,none⟩=some (Aj y)∧w'.drew.cell? ⟨g,i*2+d,none⟩=some (Aj (Cf s.move U)):=⟨dO,I,X,n,G⟩;refine Bq (fun i=>!([17,22]:List Nat).contains i) (fun i=>([1,5,10,11,16,19,20]:List Nat).contains i) (fun i=>([17]:List Nat).contains i) [0,1,2,3,4,5,6,7,8,9,10,11,12,13,14,15,16,20,17,18,19,21,22] (fun w':World=>w'.cell? ⟨mb,43,none⟩=some (Aj s.move)∧w'.cell? ⟨mb,3,none⟩=some (.slice (some ⟨g,0,none⟩) s.aF.length c)∧w'.cell? ⟨w.heap.size,0,none⟩=some (Aj i)∧w'.cell? ⟨w.heap.size+1,0,none⟩=some (Aj y)∧w'.cell? ⟨g,i*2+d,none⟩=some (Aj (Cf s.move U))) (by kernel_rfl) (by kernel_rfl) (by kernel_rfl) (by kernel_rfl) ?_;refine Be ?_;refine Bj a ?_
  iterate 3 (refine Be ?_)
  refine Bj a ?_
  iterate 4 (refine Be ?_)
  refine Bj a ?_;refine Bj a ?_
  iterate 4 (refine Be ?_)
  refine Bj a ?_;refine Bj a ?_;refine Bi fun K j=>?_;go_simp
  refine(Cu _ _ _ _).mono ?_;rintro e F⟨rfl,rfl⟩;rw[T.o];dsimp only;refine j _ _ (fun _=>a) ?_;clear j K;refine Be ?_;refine Bj a ?_;refine Be ?_;refine Bi fun K j=>?_;go_simp
  refine(Sk w'.drew mb O Y _ u.o.drew i s.move _ Q N).mono ?_;intro e w9 E;have W:=Aq (E.bL R.o.fr.drew);obtain⟨rfl,_⟩:=E;dsimp only;refine Bh j ?_;clear j K;refine Bb ?_;go_wp2;go_end0;rw[Zba Z.o A.o];have B:=W.o;rw[Do _ (by omega)]at B;exact B
 ·have Z:=Aq b;have z:cJ s x=false:=by simpa using b
  have hx:=Aq z;clear b z h m;go_enter Tryz.func208,Tryz.ntmps208;go_wp2_with fail
  refine(Du w mb O L s H.o x y r C.o _ _).mono ?_;rintro e w'⟨rfl,q,k,v⟩;obtain⟨Y,f⟩:=q.ma;have u:=Aq f;have R:=Aq q;have hK:=q.lt;have X:=k.cell 0;have HM:=k.lt;have hM:=k.frozen 0;have n:=v.cell 0;have J:=v.lt;have ht:=v.frozen 0;simp only[Az,Ay]at X n;clear q f k v;go_wp2_with fail
  refine(Gp w' mb O Y _ u.o _).mono ?_;rintro e F⟨rfl,rfl⟩;have l:cJ { s with stack:=r } x=false:=hx.o;rw[l];clear l;go_wp2;go_end0;rw[Zfi Z.o];exact .dD u.o R.o.fr
end
section
open Go.RowKit Mc
def mI (s:St)(r:List Int)(p v:Int):St:=if s.look=s.move∧cJ s p then bm { s with stack:=r } p.toNat s.move v else { s with stack:=r }
theorem Zh {s:St}{r:List Int}{p v:Int} (h:¬ (s.look=s.move∧cJ s p=true)):mI s r p v = { s with stack:=r } := by unfold mI;rw[if_neg h]
theorem Zeq {s:St}{r:List Int}{i:Nat}{v:Int}(h:s.look=s.move)(x:cJ s i=true):mI s r i v=bm { s with stack:=r } i s.move v:=by
 unfold mI;rw[if_pos ⟨h,x⟩,Cw]
def Ky (s:St)(r:List Int)(p q:Int):St:=if s.look=s.move∧cJ s p∧cJ s q then bm { s with stack:=r } q.toNat s.move (Cf s.move (s.aF.getD p.toNat (0,0))) else { s with stack:=r }
theorem Mx {s:St}{r:List Int}{p q:Int} (h:¬ (s.look=s.move∧cJ s p=true∧cJ s q=true)):Ky s r p q = { s with stack:=r } := by unfold Ky;rw[if_neg h]
theorem Yf {s:St}{r:List Int}{i j:Nat}{x:Int×Int}(h:s.look=s.move)(y:cJ s i=true)(u:cJ s j=true) (z:s.aF[i]?=some x):Ky s r i j=bm { s with stack:=r } j s.move (Cf s.move x):=by
 unfold Ky;rw[if_pos ⟨h,y,u⟩,Cw,Cw,Da z]
theorem Ih {s:St}{x:Int}(h:cJ s x=true):∃i:Nat,x=i∧i<s.aF.length:=by
 simp only[cJ,decide_eq_true_eq]at h;exact⟨x.toNat,by omega,by omega⟩
theorem Zjn (w:World)(mb:Nat)(O:Nat→Prop)(L:bd)(s:St)(h:ag w mb O L s)(x y:Int)(r:List Int)(S:s.stack=y::x::r) :
  Calls Tryz.prog 210 #[.pointer (some ⟨mb,0,none⟩)] w (aw w mb O (mI s r x y)):=by
 have H:=Aq h;have Q:=Aq S;have D:=h.ok.move;have HM:=h.ok.cX;clear h S;by_cases Y:s.look=s.move
 ·have m:=Aq Y;clear Y;by_cases f:cJ s x=true
  ·have V:=Aq f;obtain⟨i,rfl,F⟩:=Ih f;clear f;go_enter Tryz.func210,Tryz.ntmps210;go_wp2_with fail
   refine(Du w mb O L s H.o _ y r Q.o _ _).mono ?_;rintro e w'⟨rfl,p,k,v⟩;obtain⟨l,a⟩:=p.ma;have z:=Aq a;have n:=Aq p;have C:=p.lt;have q:=k.cell 0;have U:=k.lt;have R:=k.frozen 0;have d:=v.cell 0;have Z:=v.lt;have P:=v.frozen 0;simp only[Az,Ay]at q d;clear p a k v;go_wp2_with fail
   have dH:=z.o.aG.cell 42;rw[z.o.c.dH]at dH;dsimp only at dH;have dO:=z.o.aG.cell 43;rw[z.o.c.dO]at dO;dsimp only at dO;rw[m.o]at dH;have u:w'.drew.cell? ⟨mb,42,none⟩=some (Aj s.move)∧w'.drew.cell? ⟨mb,43,none⟩=some (Aj s.move)∧w'.drew.cell? ⟨w.heap.size,0,none⟩=some (Aj i):=⟨dH,dO,q⟩;refine Cr [12] [3,7,11] [] 14 (fun w':World=>w'.cell? ⟨mb,42,none⟩=some (Aj s.move)∧w'.cell? ⟨mb,43,none⟩=some (Aj s.move)∧w'.cell? ⟨w.heap.size,0,none⟩=some (Aj i)) ?_
   iterate 3 (refine Be ?_)
   refine Bj u ?_
   iterate 3 (refine Be ?_)
   refine Bj u ?_
   iterate 3 (refine Be ?_)
   go_simp;refine Bj u ?_;refine Bi fun K b=>?_;go_simp
   refine(Gp w'.drew mb O l _ z.o.drew _).mono ?_;rintro e I⟨rfl,rfl⟩;have X:cJ { s with stack:=r } (i:Int)=true:=V.o;rw[X];clear X;dsimp only;refine Bh b ?_;clear b K;refine Be ?_;refine Bb ?_;have g:=Aq z.o.drew;have j:=Aq n.o.fr.drew;have N:w'.drew.cell? ⟨w.heap.size,0,none⟩=some (Aj i):=q;have M:w'.drew.cell? ⟨w.heap.size+1,0,none⟩=some (Aj y):=d;have J:w'.drew.cell? ⟨mb,43,none⟩=some (Aj s.move):=dO;have T:w.heap.size<w'.drew.heap.size:=U;have ht:w.heap.size+1<w'.drew.heap.size:=Z;have hS:mb<w'.drew.heap.size:=g.o.aG.lt;clear u dH dO q d U Z R P;generalize w'.drew=W at *;go_wp2_with fail
   have u:W.drew.cell? ⟨mb,43,none⟩=some (Aj s.move)∧W.drew.cell? ⟨w.heap.size,0,none⟩=some (Aj i)∧W.drew.cell? ⟨w.heap.size+1,0,none⟩=some (Aj y):=⟨J,N,M⟩;refine Cr [7] [1,5,6] [] 8 (fun w':World=>w'.cell? ⟨mb,43,none⟩=some (Aj s.move)∧w'.cell? ⟨w.heap.size,0,none⟩=some (Aj i)∧w'.cell? ⟨w.heap.size+1,0,none⟩=some (Aj y)) ?_;refine Be ?_;refine Bj u ?_
   iterate 3 (refine Be ?_)
   refine Bj u ?_;refine Bj u ?_;refine Bi fun K b=>?_;go_simp
   refine(Sk W.drew mb O l _ g.o.drew i s.move _ F D).mono ?_;intro e w9 A;have E:=Aq (A.bL j.o.drew);obtain⟨rfl,_⟩:=A;dsimp only;refine Bh b ?_;clear b K;refine Bb ?_;go_wp2;go_end0;rw[Zeq m.o V.o];exact E.o
  ·have V:=Aq f;have B:cJ s x=false:=by simpa using f
   have G:=Aq B;clear f B;go_enter Tryz.func210,Tryz.ntmps210;go_wp2_with fail
   refine(Du w mb O L s H.o x y r Q.o _ _).mono ?_;rintro e w'⟨rfl,p,k,v⟩;obtain⟨l,a⟩:=p.ma;have z:=Aq a;have n:=Aq p;have C:=p.lt;have q:=k.cell 0;have U:=k.lt;have R:=k.frozen 0;have d:=v.cell 0;have Z:=v.lt;have P:=v.frozen 0;simp only[Az,Ay]at q d;clear p a k v;go_wp2_with fail
   have dH:=z.o.aG.cell 42;rw[z.o.c.dH]at dH;dsimp only at dH;have dO:=z.o.aG.cell 43;rw[z.o.c.dO]at dO;dsimp only at dO;rw[m.o]at dH;have u:w'.drew.cell? ⟨mb,42,none⟩=some (Aj s.move)∧w'.drew.cell? ⟨mb,43,none⟩=some (Aj s.move)∧w'.drew.cell? ⟨w.heap.size,0,none⟩=some (Aj x):=⟨dH,dO,q⟩;refine Cr [12] [3,7,11] [] 14 (fun w':World=>w'.cell? ⟨mb,42,none⟩=some (Aj s.move)∧w'.cell? ⟨mb,43,none⟩=some (Aj s.move)∧w'.cell? ⟨w.heap.size,0,none⟩=some (Aj x)) ?_
   iterate 3 (refine Be ?_)
   refine Bj u ?_
   iterate 3 (refine Be ?_)
   refine Bj u ?_
   iterate 3 (refine Be ?_)
   go_simp;refine Bj u ?_;refine Bi fun K b=>?_;go_simp
   refine(Gp w'.drew mb O l _ z.o.drew _).mono ?_;rintro e I⟨rfl,rfl⟩;have X:cJ { s with stack:=r } x=false:=G.o;rw[X];clear X;dsimp only;refine Bh b ?_;clear b K;refine Be ?_;refine Bb ?_;have g:=Aq z.o.drew;have j:=Aq n.o.fr.drew;go_wp2;go_end0;rw[Zh (fun e=>V.o e.2)];exact .dD g.o j.o
 ·have m:=Aq Y;have hb:(s.look==s.move)=false:=by simpa using Y
  clear Y;go_enter Tryz.func210,Tryz.ntmps210;go_wp2_with fail
  refine(Du w mb O L s H.o x y r Q.o _ _).mono ?_;rintro e w'⟨rfl,p,k,v⟩;obtain⟨l,a⟩:=p.ma;have z:=Aq a;have n:=Aq p;have C:=p.lt;have q:=k.cell 0;have U:=k.lt;have R:=k.frozen 0;have d:=v.cell 0;have Z:=v.lt;have P:=v.frozen 0;simp only[Az,Ay]at q d;clear p a k v;go_wp2_with fail
  have dH:=z.o.aG.cell 42;rw[z.o.c.dH]at dH;dsimp only at dH;have dO:=z.o.aG.cell 43;rw[z.o.c.dO]at dO;dsimp only at dO;have u:w'.drew.cell? ⟨mb,42,none⟩=some (Aj s.look)∧w'.drew.cell? ⟨mb,43,none⟩=some (Aj s.move)∧w'.drew.cell? ⟨w.heap.size,0,none⟩=some (Aj x):=⟨dH,dO,q⟩;refine Cr [] [3,7] [] 14 (fun w':World=>w'.cell? ⟨mb,42,none⟩=some (Aj s.look)∧w'.cell? ⟨mb,43,none⟩=some (Aj s.move)∧w'.cell? ⟨w.heap.size,0,none⟩=some (Aj x)) ?_
  iterate 3 (refine Be ?_)
  refine Bj u ?_
  iterate 3 (refine Be ?_)
  refine Bj u ?_;refine Be ?_;refine Be ?_;go_simp;refine Ch rfl rfl rfl (by kernel_rfl) (fun _ _ _ h=>h) ?_;refine Ch rfl rfl rfl (by kernel_rfl) (fun _ _ _ h=>h) ?_;refine Ch rfl rfl rfl (by kernel_rfl) (fun _ _ _ h=>h) ?_;refine Be ?_;refine Bb ?_;have g:=Aq z.o.drew;have j:=Aq n.o.fr.drew;go_wp2;go_end0;rw[Zh (fun e=>m.o e.1)];exact .dD g.o j.o
theorem Zdg (w:World)(mb:Nat)(O:Nat→Prop)(L:bd)(s:St)(h:ag w mb O L s)(x y:Int)(r:List Int)(hs:s.stack=y::x::r) :
  Calls Tryz.prog 212 #[.pointer (some ⟨mb,0,none⟩)] w (aw w mb O (Ky s r x y)):=by
 have H:=Aq h;have C:=Aq hs;have hh:=h.ok.move;have hy:=h.ok.cX;clear h hs;by_cases B:s.look=s.move
 ·have P:=Aq B;clear B;by_cases U:cJ s x=true
  ·have A:=Aq U;obtain⟨i,rfl,b2⟩:=Ih U;clear U;by_cases V:cJ s y=true
   ·have E:=Aq V;obtain⟨j,rfl,ht⟩:=Ih V;clear V;go_enter Tryz.func212,Tryz.ntmps212;go_wp2_with fail
    refine(Du w mb O L s H.o _ _ r C.o _ _).mono ?_;rintro e w'⟨rfl,q,a,k⟩;obtain⟨X,n⟩:=q.ma;have z:=Aq n;have Z:=Aq q;have I:=q.lt;have l:=a.cell 0;have S:=a.lt;have F:=a.frozen 0;have f:=k.cell 0;have Q:=k.lt;have D:=k.frozen 0;simp only[Az,Ay]at l f;clear q n a k;go_wp2_with fail
    have dH:=z.o.aG.cell 42;rw[z.o.c.dH]at dH;dsimp only at dH;have dO:=z.o.aG.cell 43;rw[z.o.c.dO]at dO;dsimp only at dO;rw[P.o]at dH;have u:w'.drew.cell? ⟨mb,42,none⟩=some (Aj s.move)∧w'.drew.cell? ⟨mb,43,none⟩=some (Aj s.move)∧w'.drew.cell? ⟨w.heap.size,0,none⟩=some (Aj i)∧w'.drew.cell? ⟨w.heap.size+1,0,none⟩=some (Aj j):=⟨dH,dO,l,f⟩;refine Cr [12,17] [3,7,11,16] [12] 19 (fun w':World=>w'.cell? ⟨mb,42,none⟩=some (Aj s.move)∧w'.cell? ⟨mb,43,none⟩=some (Aj s.move)∧w'.cell? ⟨w.heap.size,0,none⟩=some (Aj i)∧w'.cell? ⟨w.heap.size+1,0,none⟩=some (Aj j)) ?_
    iterate 3 (refine Be ?_)
    refine Bj u ?_
    iterate 3 (refine Be ?_)
    refine Bj u ?_
    iterate 3 (refine Be ?_)
    go_simp;refine Bj u ?_;refine Bi fun K v=>?_;go_simp
    refine(Gp w'.drew mb O X _ z.o.drew _).mono ?_;rintro e R⟨rfl,rfl⟩;have b:cJ { s with stack:=r } ((i:Int))=true:=A.o;rw[b];clear b;dsimp only;refine v _ _ (fun _=>u) ?_;clear v K
    iterate 3 (refine Be ?_)
    go_simp;refine Bj u ?_;refine Bi fun K v=>?_;go_simp
    refine(Gp w'.drew mb O X _ z.o.drew _).mono ?_;rintro e R⟨rfl,rfl⟩;have b:cJ { s with stack:=r } ((j:Int))=true:=E.o;rw[b];clear b;dsimp only;refine Bh v ?_;clear v K;refine Be ?_;refine Bb ?_;have m:=Aq z.o.drew;have Y:=Aq Z.o.fr.drew;have e1:w'.drew.cell? ⟨w.heap.size,0,none⟩=some (Aj i):=l;have e2:w'.drew.cell? ⟨w.heap.size+1,0,none⟩=some (Aj j):=f;have e3:w'.drew.cell? ⟨mb,43,none⟩=some (Aj s.move):=dO;have hx:w.heap.size<w'.drew.heap.size:=S;have HX:w.heap.size+1<w'.drew.heap.size:=Q;have w5:mb<w'.drew.heap.size:=m.o.aG.lt;obtain⟨g,c,pt,G,L',J,HT,M⟩:=m.o.pt (p:=i) b2;dsimp only at J G L';have hM:=Aq J;have N:=m.o.aG.cell 3;rw[m.o.c.c3,G]at N;have T:=M s.move;clear M J G u dH dO l f S Q F D;generalize hd:(if s.move=1 then 1 else 0:Nat)=d at T;have HD:=Aq hd;clear hd;generalize w'.drew=W at *;go_wp2_with fail
    have u:W.drew.cell? ⟨mb,43,none⟩=some (Aj s.move)∧W.drew.cell? ⟨mb,3,none⟩=some (.slice (some ⟨g,0,none⟩) s.aF.length c)∧W.drew.cell? ⟨w.heap.size,0,none⟩=some (Aj i)∧W.drew.cell? ⟨w.heap.size+1,0,none⟩=some (Aj j)∧W.drew.cell? ⟨g,i*2+d,none⟩=some (Aj (Cf s.move pt)):=⟨e3,N,e1,e2,T⟩;refine Cr [17,20] [1,5,10,11,16,19] [17] 21 (fun w':World=>w'.cell? ⟨mb,43,none⟩=some (Aj s.move)∧w'.cell? ⟨mb,3,none⟩=some (.slice (some ⟨g,0,none⟩) s.aF.length c)∧w'.cell? ⟨w.heap.size,0,none⟩=some (Aj i)∧w'.cell? ⟨w.heap.size+1,0,none⟩=some (Aj j)∧w'.cell? ⟨g,i*2+d,none⟩=some (Aj (Cf s.move pt))) ?_;refine Be ?_;refine Bj u ?_
    iterate 3 (refine Be ?_)
    refine Bj u ?_
    iterate 4 (refine Be ?_)
    refine Bj u ?_;refine Bj u ?_
    iterate 4 (refine Be ?_)
    refine Bj u ?_;refine Bi fun K v=>?_;go_simp
    refine(Cu _ _ _ _).mono ?_;rintro e R⟨rfl,rfl⟩;rw[HD.o];dsimp only;refine v _ _ (fun _=>u) ?_;clear v K;refine Be ?_;refine Bj u ?_;refine Bi fun K v=>?_;go_simp
    refine(Sk W.drew mb O X _ m.o.drew j s.move _ ht hh).mono ?_;intro e w9 hp;have HP:=Aq (hp.bL Y.o.drew);obtain⟨rfl,_⟩:=hp;dsimp only;refine Bh v ?_;clear v K;refine Bb ?_;go_wp2;go_end0;rw[Yf P.o A.o E.o hM.o];exact HP.o
   ·have E:=Aq V;have hS:cJ s y=false:=by simpa using V
    have b1:=Aq hS;clear V hS;go_enter Tryz.func212,Tryz.ntmps212;go_wp2_with fail
    refine(Du w mb O L s H.o _ _ r C.o _ _).mono ?_;rintro e w'⟨rfl,q,a,k⟩;obtain⟨X,n⟩:=q.ma;have z:=Aq n;have Z:=Aq q;have I:=q.lt;have l:=a.cell 0;have S:=a.lt;have F:=a.frozen 0;have f:=k.cell 0;have Q:=k.lt;have D:=k.frozen 0;simp only[Az,Ay]at l f;clear q n a k;go_wp2_with fail
    have dH:=z.o.aG.cell 42;rw[z.o.c.dH]at dH;dsimp only at dH;have dO:=z.o.aG.cell 43;rw[z.o.c.dO]at dO;dsimp only at dO;rw[P.o]at dH;have u:w'.drew.cell? ⟨mb,42,none⟩=some (Aj s.move)∧w'.drew.cell? ⟨mb,43,none⟩=some (Aj s.move)∧w'.drew.cell? ⟨w.heap.size,0,none⟩=some (Aj i)∧w'.drew.cell? ⟨w.heap.size+1,0,none⟩=some (Aj y):=⟨dH,dO,l,f⟩;refine Cr [12,17] [3,7,11,16] [12] 19 (fun w':World=>w'.cell? ⟨mb,42,none⟩=some (Aj s.move)∧w'.cell? ⟨mb,43,none⟩=some (Aj s.move)∧w'.cell? ⟨w.heap.size,0,none⟩=some (Aj i)∧w'.cell? ⟨w.heap.size+1,0,none⟩=some (Aj y)) ?_
    iterate 3 (refine Be ?_)
    refine Bj u ?_
    iterate 3 (refine Be ?_)
    refine Bj u ?_
    iterate 3 (refine Be ?_)
    go_simp;refine Bj u ?_;refine Bi fun K v=>?_;go_simp
    refine(Gp w'.drew mb O X _ z.o.drew _).mono ?_;rintro e R⟨rfl,rfl⟩;have b:cJ { s with stack:=r } ((i:Int))=true:=A.o;rw[b];clear b;dsimp only;refine v _ _ (fun _=>u) ?_;clear v K
    iterate 3 (refine Be ?_)
    go_simp;refine Bj u ?_;refine Bi fun K v=>?_;go_simp
    refine(Gp w'.drew mb O X _ z.o.drew _).mono ?_;rintro e R⟨rfl,rfl⟩;have b:cJ { s with stack:=r } (y)=false:=b1.o;rw[b];clear b;dsimp only;refine Bh v ?_;clear v K;refine Be ?_;refine Bb ?_;have m:=Aq z.o.drew;have Y:=Aq Z.o.fr.drew;go_wp2;go_end0;rw[Mx (fun e=>E.o e.2.2)];exact .dD m.o Y.o
  ·have A:=Aq U;have HM:cJ s x=false:=by simpa using U
   have hK:=Aq HM;clear U HM;go_enter Tryz.func212,Tryz.ntmps212;go_wp2_with fail
   refine(Du w mb O L s H.o _ _ r C.o _ _).mono ?_;rintro e w'⟨rfl,q,a,k⟩;obtain⟨X,n⟩:=q.ma;have z:=Aq n;have Z:=Aq q;have I:=q.lt;have l:=a.cell 0;have S:=a.lt;have F:=a.frozen 0;have f:=k.cell 0;have Q:=k.lt;have D:=k.frozen 0;simp only[Az,Ay]at l f;clear q n a k;go_wp2_with fail
   have dH:=z.o.aG.cell 42;rw[z.o.c.dH]at dH;dsimp only at dH;have dO:=z.o.aG.cell 43;rw[z.o.c.dO]at dO;dsimp only at dO;rw[P.o]at dH;have u:w'.drew.cell? ⟨mb,42,none⟩=some (Aj s.move)∧w'.drew.cell? ⟨mb,43,none⟩=some (Aj s.move)∧w'.drew.cell? ⟨w.heap.size,0,none⟩=some (Aj x)∧w'.drew.cell? ⟨w.heap.size+1,0,none⟩=some (Aj y):=⟨dH,dO,l,f⟩;refine Cr [12] [3,7,11] [] 19 (fun w':World=>w'.cell? ⟨mb,42,none⟩=some (Aj s.move)∧w'.cell? ⟨mb,43,none⟩=some (Aj s.move)∧w'.cell? ⟨w.heap.size,0,none⟩=some (Aj x)∧w'.cell? ⟨w.heap.size+1,0,none⟩=some (Aj y)) ?_
   iterate 3 (refine Be ?_)
   refine Bj u ?_
   iterate 3 (refine Be ?_)
   refine Bj u ?_
   iterate 3 (refine Be ?_)
   go_simp;refine Bj u ?_;refine Bi fun K v=>?_;go_simp
   refine(Gp w'.drew mb O X _ z.o.drew _).mono ?_;rintro e R⟨rfl,rfl⟩;have b:cJ { s with stack:=r } (x)=false:=hK.o;rw[b];clear b;dsimp only;refine Bh v ?_;clear v K;refine Be ?_;refine Be ?_;go_simp;refine Ch rfl rfl rfl (by kernel_rfl) (fun _ _ _ h=>h) ?_;refine Ch rfl rfl rfl (by kernel_rfl) (fun _ _ _ h=>h) ?_;refine Ch rfl rfl rfl (by kernel_rfl) (fun _ _ _ h=>h) ?_;refine Be ?_;refine Bb ?_;have m:=Aq z.o.drew;have Y:=Aq Z.o.fr.drew;go_wp2;go_end0;rw[Mx (fun e=>A.o e.2.1)];exact .dD m.o Y.o
 ·have P:=Aq B;have hb:(s.look==s.move)=false:=by simpa using B
  clear B;go_enter Tryz.func212,Tryz.ntmps212;go_wp2_with fail
  refine(Du w mb O L s H.o _ _ r C.o _ _).mono ?_;rintro e w'⟨rfl,q,a,k⟩;obtain⟨X,n⟩:=q.ma;have z:=Aq n;have Z:=Aq q;have I:=q.lt;have l:=a.cell 0;have S:=a.lt;have F:=a.frozen 0;have f:=k.cell 0;have Q:=k.lt;have D:=k.frozen 0;simp only[Az,Ay]at l f;clear q n a k;go_wp2_with fail
  have dH:=z.o.aG.cell 42;rw[z.o.c.dH]at dH;dsimp only at dH;have dO:=z.o.aG.cell 43;rw[z.o.c.dO]at dO;dsimp only at dO;have u:w'.drew.cell? ⟨mb,42,none⟩=some (Aj s.look)∧w'.drew.cell? ⟨mb,43,none⟩=some (Aj s.move)∧w'.drew.cell? ⟨w.heap.size,0,none⟩=some (Aj x)∧w'.drew.cell? ⟨w.heap.size+1,0,none⟩=some (Aj y):=⟨dH,dO,l,f⟩;refine Cr [] [3,7] [] 19 (fun w':World=>w'.cell? ⟨mb,42,none⟩=some (Aj s.look)∧w'.cell? ⟨mb,43,none⟩=some (Aj s.move)∧w'.cell? ⟨w.heap.size,0,none⟩=some (Aj x)∧w'.cell? ⟨w.heap.size+1,0,none⟩=some (Aj y)) ?_
  iterate 3 (refine Be ?_)
  refine Bj u ?_
  iterate 3 (refine Be ?_)
  refine Bj u ?_;refine Be ?_;refine Be ?_;go_simp;refine Ch rfl rfl rfl (by kernel_rfl) (fun _ _ _ h=>h) ?_;refine Ch rfl rfl rfl (by kernel_rfl) (fun _ _ _ h=>h) ?_;refine Ch rfl rfl rfl (by kernel_rfl) (fun _ _ _ h=>h) ?_;refine Be ?_;refine Be ?_;go_simp;refine Ch rfl rfl rfl (by kernel_rfl) (fun _ _ _ h=>h) ?_;refine Ch rfl rfl rfl (by kernel_rfl) (fun _ _ _ h=>h) ?_;refine Ch rfl rfl rfl (by kernel_rfl) (fun _ _ _ h=>h) ?_;refine Be ?_;refine Bb ?_;have m:=Aq z.o.drew;have Y:=Aq Z.o.fr.drew;go_wp2;go_end0;rw[Mx (fun e=>P.o e.1)];exact .dD m.o Y.o
theorem Zaz (w:World)(mb:Nat)(O:Nat→Prop)(L:bd)(s:St)(h:ag w mb O L s)(a x y:Int)(r:List Int)(z:s.stack=y::x::r) :
  Calls Tryz.prog 207 #[.pointer (some ⟨mb,0,none⟩),Aj a] w (aw w mb O (Qt s r x y)):=by
 have k:=Aq (Zf w mb O L s h x y r z);clear h z;go_enter Tryz.func207,Tryz.ntmps207;go_wp2_with fail
 refine k.o.mono ?_;intro e p u;have v:=Aq u;obtain⟨rfl,_⟩:=u;go_wp2;go_end0;exact v.o
theorem Zep (w:World)(mb:Nat)(O:Nat→Prop)(L:bd)(s:St)(h:ag w mb O L s)(a x y:Int)(r:List Int)(z:s.stack=y::x::r) :
  Calls Tryz.prog 209 #[.pointer (some ⟨mb,0,none⟩),Aj a] w (aw w mb O (mI s r x y)):=by
 have k:=Aq (Zjn w mb O L s h x y r z);clear h z;go_enter Tryz.func209,Tryz.ntmps209;go_wp2_with fail
 refine k.o.mono ?_;intro e p u;have v:=Aq u;obtain⟨rfl,_⟩:=u;go_wp2;go_end0;exact v.o
theorem Ye (w:World)(mb:Nat)(O:Nat→Prop)(L:bd)(s:St)(h:ag w mb O L s)(a x y:Int)(r:List Int)(z:s.stack=y::x::r) :
  Calls Tryz.prog 211 #[.pointer (some ⟨mb,0,none⟩),Aj a] w (aw w mb O (Ky s r x y)):=by
 have k:=Aq (Zdg w mb O L s h x y r z);clear h z;go_enter Tryz.func211,Tryz.ntmps211;go_wp2_with fail
 refine k.o.mono ?_;intro e p u;have v:=Aq u;obtain⟨rfl,_⟩:=u;go_wp2;go_end0;exact v.o
section
variable {w w' w1 : World} {sb : Nat} {L : bK} {s : Sr.St}
theorem au.pt (h:au w sb L s){p:Nat}(q:p<s.m.aF.length):∃g c x,L.cu=.slice (some ⟨g,0,none⟩) s.m.aF.length c∧s.m.aF.length≤c∧s.m.aF[p]?=some x∧g<w.heap.size∧(∀axis,w.cell? ⟨g,p*2+(if axis=1 then 1 else 0),none⟩=some (Aj (Cf axis x)))∧∀j,w.frozen? ⟨g,j,none⟩=false:=by
 obtain⟨x,y⟩:∃x,s.m.aF[p]?=some x:=⟨_,Bg q⟩;obtain⟨g,c,z,u,a,v,r⟩:=Ce h.cu (by omega);refine⟨g,c,x,z,u,y,v,fun axis=>r _ _ (Ek y axis),fun j=>?_⟩;obtain⟨_,_,_,k⟩:=Bf h.cu (g:=g) (by rw[z];rfl);exact k.frozen j
theorem au.tqAt (h:au w sb L s){p:Nat}(k:p<s.m.aF.length):∃g c t,L.tq=.slice (some ⟨g,0,none⟩) s.m.aB.length c∧s.m.aB[p]?=some t∧g<w.heap.size∧w.cell? ⟨g,p,none⟩=some (Aj t)∧w.frozen? ⟨g,p,none⟩=false:=by
 have u:p<s.m.aB.length:=by rw[h.ok.m.tl];exact k
 obtain⟨t,y⟩:∃t,s.m.aB[p]?=some t:=⟨_,Bg u⟩;obtain⟨g,c,x,r,a,z,q⟩:=Ce h.tq (by omega);obtain⟨_,_,_,v⟩:=Bf h.tq (g:=g) (by rw[x];rfl);exact⟨g,c,t,x,y,z,q _ _ (Ck y),v.frozen p⟩
end
theorem Fb (w:World)(sb:Nat)(L:bK)(s:Sr.St)(h:au w sb L s)(x:Int):Calls Tryz.prog 226 #[.pointer (some ⟨sb,0,none⟩),Aj x] w fun e w'=>e=.returned (.bool (cJ s.m x))∧w=w':=by
 obtain⟨A,c,y,u,v⟩:=Ba h.cu;have h_:=h.h_;rw[y]at h_;have z:=h.aG.lt;clear h y;by_cases k:0≤x
 all_goals
  go_enter Tryz.func226,Tryz.ntmps226;go_wp2_with fail
  go_wp2
  all_goals
   go_ret;exact⟨Cs (by unfold cJ;simp;omega),rfl⟩
theorem Qa (w:World)(sb:Nat)(L:bK)(s:Sr.St)(h:au w sb L s)(n:Int)(x:Bool)(z:x=true→0≤n∧s.pc+n≤1000000):Calls Tryz.prog 150 #[.pointer (some ⟨sb,0,none⟩),Aj n,.bool x] w (bB w sb L (Sr.bv s n x)):=by
 have jP:=h.jP;have u:=h.aG.lt;have H:=Aq h;cases x with
 |false =>
  clear h z;go_enter Tryz.func150,Tryz.ntmps150;go_wp2_with fail
  go_wp2;go_end0;exact .dD H.o (qu _ w)
 |true =>
  obtain⟨p,k⟩:=z rfl;have y:=Aq (show bB w sb L (Sr.bv s n true) (.returned (.tuple #[])) (w.setCell ⟨sb,75,none⟩ (Aj ((s.pc+n.toNat:Nat):Int))) from⟨rfl,h.jp _,(qu _ w).setCell (.inl (.inl rfl)) _⟩);obtain⟨n,rfl⟩:∃m:Nat,n=m:=⟨n.toNat,by omega⟩;have v:=h.aG.frozen 75;rw[Cw]at y;have e:((s.pc+n:Nat):Int)=(s.pc:Int)+n:=by omega
  rw[e]at y;clear h e;generalize s.pc=pc at *;go_enter Tryz.func150,Tryz.ntmps150;go_wp2_with fail
  go_wp2;go_end0;exact y.o
theorem Om (w:World)(sb:Nat)(L:bK)(s:Sr.St)(h:au w sb L s)(p:Nat)(v:Int)(U:p<s.m.aF.length):Calls Tryz.prog 228 #[.pointer (some ⟨sb,0,none⟩),Aj p,Aj v] w (bB w sb L { s with m:=bm s.m p s.m.move v }):=by
 obtain⟨g,c,x,f,hK,b,hg,V,F⟩:=h.pt U;obtain⟨gt,n,t,j,H,ct,tc,I⟩:=h.tqAt U;have M:=V s.m.move;have N:=F (p*2+(if s.m.move=1 then 1 else 0));have h_:=h.h_;rw[f]at h_;have gg:=h.gg;have l:=h.ok.m.move;have O:=h.ok.m.aF x (Bx b);have S:=h.ok.m.aB t (Bx H);have r:=(h.ix (g:=g) (by rw[f];rfl) b s.m.move (bA v) (Fg v) O).drew;have E:=r.drew.setTq (g:=gt) (by rw[j];rfl) (i:=p) (by have:=h.ok.m.tl;simp only;omega) (Yw l S);have Q:Fr (eZ L sb) w ((w.setCell ⟨g,p*2+(if s.m.move=1 then 1 else 0),none⟩ (Aj (bA v))).drew.drew.setCell ⟨gt,p,none⟩ (Aj (Yi s.m.move t))):=((qu _ w).setCell (.inl (.inr (.inl (by rw[f];rfl)))) _).drew.drew.setCell (.inl (.inr (.inr (.inl (by rw[j];rfl))))) _;have P:{ s with m := { s.m with aF:=s.m.aF.set p (if s.m.move=1 then(x.1,bA v) else(bA v,x.2)),aB:=s.m.aB.set p (Yi s.m.move t) } } = { s with m:=bm s.m p s.m.move v } := by
  unfold bm Yi fp;rw[Da b,Da H]
 have G:Hid (bB w sb L { s with m:=bm s.m p s.m.move v } (.returned (.tuple #[])) ((w.setCell ⟨g,p*2+(if s.m.move=1 then 1 else 0),none⟩ (Aj (bA v))).drew.drew.setCell ⟨gt,p,none⟩ (Aj (Yi s.m.move t)))):=Aq (by rw[←P];exact .dD E Q);have H1:=Aq r;have Y:=r.drew.c66;have Z:=r.drew.gg;obtain⟨hm,_,t',u,a,_,A,hv⟩:=r.drew.tqAt (p:=p) (by simpa using U);simp only at u a Z;obtain rfl:t=t':=by rw[H]at a;injection a with a
 rw[j]at u Y
 injection u with u
 injection u with u
 injection u with u
 subst u;have hs:=h.aG.lt;have ht:(p:Int)<s.m.aF.length:=by omega
 have bt:=h.ok.m.cX;have R:=h.ok.m.tl;have mv:p<s.m.aB.length:=by omega
 have h1:s.m.aB.length≤1000000:=by omega
 have hx:=Aq R;clear h r E Q P V F f j b H a R hK;generalize k:s.m.move=q at *;generalize B:(if q=1 then 1 else 0:Nat)=d at *;have T:=Aq B;have HM:=Aq k;clear B k;go_enter Tryz.func228,Tryz.ntmps228;go_wp2_with fail
 have z:w.drew.cell? ⟨sb,65,none⟩=some (.slice (some ⟨g,0,none⟩) s.m.aF.length c)∧w.drew.cell? ⟨sb,73,none⟩=some (Aj q):=⟨h_,gg⟩;refine Bq (fun i=>!([11,13,15]:List Nat).contains i) (fun i=>([4,10]:List Nat).contains i) (fun i=>([]:List Nat).contains i) [0,1,2,3,4,5,6,7,8,9,10,12,11,13,14,15] (fun wq:World=>wq.cell? ⟨sb,65,none⟩=some (.slice (some ⟨g,0,none⟩) s.m.aF.length c)∧wq.cell? ⟨sb,73,none⟩=some (Aj q)) (by kernel_rfl) (by kernel_rfl) (by kernel_rfl) (by kernel_rfl) ?_
 repeat (first|refine Be ?_|refine Bj z ?_)
 refine Bi fun K y=>?_;go_simp
 refine(Dt _ _ _ _ l.1 l.2).mono ?_;rintro e J⟨rfl,rfl⟩;rw[T.o];dsimp only;refine y _ _ (fun _=>z) ?_;clear y K;refine Bi fun K y=>?_;go_simp
 refine(Dy _ _).mono ?_;rintro e J⟨rfl,rfl⟩;dsimp only;refine y _ _ (fun _=>z) ?_;clear y K
 repeat (first|refine Be ?_|refine Bj z ?_)
 refine Bi fun K y=>?_;go_simp
 refine Bh y ?_;clear y K;refine Bb ?_;clear z h_ gg M N tc I;go_wp2_with fail
 generalize (w.setCell ⟨g,p*2+d,none⟩ (Aj (bA v))).drew=W at *;have X:=Rn l S;generalize C:Yi q t=D at *;have hS:=Aq C;clear C;rcases(show q=0∨q=1 by omega) with k|k
 ·subst k
  replace X:bits BinOp.or IntKind.i64 t (IntKind.i64.wrap 1)=D:=X
  have z:W.drew.cell? ⟨sb,66,none⟩=some (.slice (some ⟨gt,0,none⟩) s.m.aB.length n)∧W.drew.cell? ⟨sb,73,none⟩=some (Aj 0)∧W.drew.cell? ⟨gt,p,none⟩=some (Aj t):=⟨Y,Z,A⟩;refine Cr [15] [4,7,11] [] 16 (fun wq:World=>wq.cell? ⟨sb,66,none⟩=some (.slice (some ⟨gt,0,none⟩) s.m.aB.length n)∧wq.cell? ⟨sb,73,none⟩=some (Aj 0)∧wq.cell? ⟨gt,p,none⟩=some (Aj t)) ?_
  repeat (first|refine Be ?_|refine Bj z ?_)
  refine Bi fun K y=>?_;go_simp
  refine Bh y ?_;clear y K;refine Bb ?_;go_wp2;go_end0;exact G.o
 ·subst k
  replace X:bits BinOp.or IntKind.i64 t (IntKind.i64.wrap 2)=D:=X
  have z:W.drew.cell? ⟨sb,66,none⟩=some (.slice (some ⟨gt,0,none⟩) s.m.aB.length n)∧W.drew.cell? ⟨sb,73,none⟩=some (Aj 1)∧W.drew.cell? ⟨gt,p,none⟩=some (Aj t):=⟨Y,Z,A⟩;refine Cr [15] [4,7,11] [] 16 (fun wq:World=>wq.cell? ⟨sb,66,none⟩=some (.slice (some ⟨gt,0,none⟩) s.m.aB.length n)∧wq.cell? ⟨sb,73,none⟩=some (Aj 1)∧wq.cell? ⟨gt,p,none⟩=some (Aj t)) ?_
  repeat (first|refine Be ?_|refine Bj z ?_)
  refine Bi fun K y=>?_;go_simp
  refine Bh y ?_;clear y K;refine Bb ?_;go_wp2;go_end0;exact G.o
end
section
open Go.RowKit Mc
theorem bB.to {w w1:World}{sb:Nat}{L:bK}{s':Sr.St}(h:au w1 sb L s') (x:Fr (eZ L sb) w w1):bB w sb L s' (.returned (.tuple #[])) w1:=⟨rfl,h,x⟩
theorem Py (w:World)(sb:Nat)(L:bK)(s:Sr.St)(h:au w sb L s)(op n b d:Int)(a:Nat)(i:a<64)(A:Option Addr)(k c:Nat)(Z:k≤1000000) (g:¬ (0≤s.aW.getD a 0∧s.aW.getD a 0<k)) :
  Calls Tryz.prog 130 #[.pointer (some ⟨sb,0,none⟩),.slice A k c,Ew ⟨op,d,a,b,n⟩] w (bB w sb L s):=by
 unfold Ew;have H:=Aq h;have V:(a:Int)<64:=by omega
 have Y:=h.aG.lt;obtain⟨x,j,_,_⟩:=h.jW i;rw[j]at g;have l:=Aq j;clear h j;by_cases m:0≤x
 ·have U:¬ x<k:=fun e=>g ⟨m,e⟩
  clear g;go_enter Tryz.func130,Tryz.ntmps130;go_wp2_with fail
  generalize p:w.alloc (.cells #[Aj op,Aj (d:Int),Aj (a:Int),Aj (b:Int),Aj n] 50)=W at *;obtain⟨K,f,z,r,X,H1,u,q⟩:=H.o.box p;clear p;have y:=H1.o.fR i;rw[l.o]at y;have v:W.drew.cell? ⟨w.heap.size,2,none⟩=some (Aj (a:Int))∧W.drew.cell? ⟨sb,a,none⟩=some (Aj x):=⟨z,y⟩;refine Cr [] [2,6] [] 8 (fun wq:World=>wq.cell? ⟨w.heap.size,2,none⟩=some (Aj (a:Int))∧wq.cell? ⟨sb,a,none⟩=some (Aj x)) ?_
  iterate 8 (first|refine Be ?_|refine Bj v ?_)
  refine Bb ?_;clear y;have H1:=Aq H1.o.drew;have u:=Aq u.o.drew
  replace f:W.drew.cell? ⟨w.heap.size,1,none⟩=some (Aj (d:Int)):=f
  replace z:W.drew.cell? ⟨w.heap.size,2,none⟩=some (Aj (a:Int)):=z
  replace r:W.drew.cell? ⟨w.heap.size,3,none⟩=some (Aj (b:Int)):=r
  replace q:w.heap.size<W.drew.heap.size:=q
  clear v;generalize W.drew=W at *;go_wp2;go_end0;exact .dD H1.o u.o
 ·clear g;go_enter Tryz.func130,Tryz.ntmps130;go_wp2_with fail
  generalize p:w.alloc (.cells #[Aj op,Aj (d:Int),Aj (a:Int),Aj (b:Int),Aj n] 50)=W at *;obtain⟨K,f,z,r,X,H1,u,q⟩:=H.o.box p;clear p;have y:=H1.o.fR i;rw[l.o]at y;have v:W.drew.cell? ⟨w.heap.size,2,none⟩=some (Aj (a:Int))∧W.drew.cell? ⟨sb,a,none⟩=some (Aj x):=⟨z,y⟩;refine Cr [] [2,6] [] 8 (fun wq:World=>wq.cell? ⟨w.heap.size,2,none⟩=some (Aj (a:Int))∧wq.cell? ⟨sb,a,none⟩=some (Aj x)) ?_
  iterate 8 (first|refine Be ?_|refine Bj v ?_)
  refine Bb ?_;clear y;have H1:=Aq H1.o.drew;have u:=Aq u.o.drew
  replace f:W.drew.cell? ⟨w.heap.size,1,none⟩=some (Aj (d:Int)):=f
  replace z:W.drew.cell? ⟨w.heap.size,2,none⟩=some (Aj (a:Int)):=z
  replace r:W.drew.cell? ⟨w.heap.size,3,none⟩=some (Aj (b:Int)):=r
  replace q:w.heap.size<W.drew.heap.size:=q
  clear v;generalize W.drew=W at *;go_wp2;go_end0;exact .dD H1.o u.o
theorem Nn (w:World)(sb:Nat)(L:bK)(s:Sr.St)(h:au w sb L s)(op n d:Int)(a b:Nat)(B:a<64)(U:b<64)(i k c g:Nat)(I:k≤1000000)(j:s.aW.getD a 0=i)(hi:i<k)(s':Sr.St)(Q:eZ L sb g)
  (P:∀W,au W sb L s→au (W.setCell ⟨g,i,none⟩ (Aj (s.aW.getD b 0))) sb L s'∧(∃u,W.cell? ⟨g,i,none⟩=some u)∧W.frozen? ⟨g,i,none⟩=false) :
  Calls Tryz.prog 130 #[.pointer (some ⟨sb,0,none⟩),.slice (some ⟨g,0,none⟩) k c,Ew ⟨op,d,a,b,n⟩] w (bB w sb L s'):=by
 unfold Ew;have H:=Aq h;have M:(a:Int)<64:=by omega
 have C:(b:Int)<64:=by omega
 have G:=h.aG.lt;have A:=Aq j;have m:=Aq P;obtain⟨y,z,_,_⟩:=h.jW U;have S:=Aq z;rw[z]at m;clear h j z P;go_enter Tryz.func130,Tryz.ntmps130;go_wp2_with fail
 generalize X:w.alloc (.cells #[Aj op,Aj (d:Int),Aj (a:Int),Aj (b:Int),Aj n] 50)=W at *;obtain⟨E,V,q,e,F,H1,r,Y⟩:=H.o.box X;clear X;have v:=H1.o.fR B;rw[A.o]at v;have x:W.drew.cell? ⟨w.heap.size,2,none⟩=some (Aj (a:Int))∧W.drew.cell? ⟨sb,a,none⟩=some (Aj i):=⟨q,v⟩;refine Cr [] [2,6] [] 8 (fun wq:World=>wq.cell? ⟨w.heap.size,2,none⟩=some (Aj (a:Int))∧wq.cell? ⟨sb,a,none⟩=some (Aj i)) ?_
 iterate 8 (first|refine Be ?_|refine Bj x ?_)
 refine Bb ?_;clear v;have H1:=Aq H1.o.drew;have r:=Aq r.o.drew
 replace V:W.drew.cell? ⟨w.heap.size,1,none⟩=some (Aj (d:Int)):=V
 replace q:W.drew.cell? ⟨w.heap.size,2,none⟩=some (Aj (a:Int)):=q
 replace e:W.drew.cell? ⟨w.heap.size,3,none⟩=some (Aj (b:Int)):=e
 replace Y:w.heap.size<W.drew.heap.size:=Y
 clear x;generalize W.drew=W at *;go_wp2_with fail
 have f:=H1.o.fR U;rw[S.o]at f;obtain⟨l,⟨u,J⟩,D⟩:=m.o W.drew H1.o.drew;have R:=Aq (bB.to l (r.o.drew.setCell (p:=⟨g,i,none⟩) (.inl Q) (Aj y)));clear l;have x:W.drew.cell? ⟨w.heap.size,3,none⟩=some (Aj (b:Int))∧W.drew.cell? ⟨sb,b,none⟩=some (Aj y):=⟨e,f⟩;refine Cr [10] [4,8] [] 11 (fun wq:World=>wq.cell? ⟨w.heap.size,3,none⟩=some (Aj (b:Int))∧wq.cell? ⟨sb,b,none⟩=some (Aj y)) ?_
 iterate 10 (first|refine Be ?_|refine Bj x ?_)
 refine Bi fun K Z=>?_;go_simp
 refine Bh Z ?_;clear Z K;refine Bb ?_;go_wp2;go_end0;exact R.o
def Ll (s:Sr.St) (l:List (Int×Int)) (d:Nat) (p:Int):Sr.St := { s with aW:=s.aW.set d (if cJ s.m p then Cf s.m.look (l.getD p.toNat (0,0)) else 0) }
theorem No (w:World)(sb:Nat)(L:bK)(s:Sr.St)(h:au w sb L s)(op n b:Int)(d a:Nat)(P:d<64)(E:a<64)(v:Value) (l:List (Int×Int)) (B:l.length=s.m.aF.length) (V:∀W,au W sb L s→W.ownsRow 0 76 2 v l.length (bq l)) (R:∀p∈l,bI p.1∧bI p.2) :
  Calls Tryz.prog 138 #[.pointer (some ⟨sb,0,none⟩),v,Ew ⟨op,d,a,b,n⟩] w (bB w sb L (Ll s l d (s.aW.getD a 0))):=by
 unfold Ew;have H:=Aq h;have hx:(a:Int)<64:=by omega
 have hK:(d:Int)<64:=by omega
 have hz:=h.aG.lt;have lk:=h.ok.m.cX;have J:=h.ok.m.look;obtain⟨x,U,z,hW⟩:=h.jW E;have T:=Aq U;rw[U];obtain⟨A,c,rfl,hS,N⟩:=Ba (V w h);have HV:=Aq V;have HL:=Aq B;by_cases X:cJ s.m x=true
 ·obtain⟨i,rfl,hi⟩:=Ih X;have r1:i<l.length:=by omega
  have r3:l.length≤1000000:=by omega
  obtain⟨p,Q⟩:∃p,l[i]?=some p:=⟨_,Bg r1⟩;have S:=Aq (show Ll s l d i = { s with aW:=s.aW.set d (Cf s.m.look p) } by unfold Ll;rw[if_pos X,Cw,Da Q]);have M:bI (Cf s.m.look p):=by
   have:=R p (Bx Q);unfold Cf;split
   ·exact this.2
   ·exact this.1
  have r2:=Aq M;have D:=Aq X;have F1:=Aq Q;clear h U V R hS N z B X Q M;go_enter Tryz.func138,Tryz.ntmps138;go_wp2_with fail
  generalize Y:w.alloc (.cells #[Aj op,Aj (d:Int),Aj (a:Int),Aj (b:Int),Aj n] 50)=W at *;obtain⟨r0,u,k,j,r4,H1,q,f⟩:=H.o.box Y;clear Y;have z:=H1.o.fR E;rw[T.o]at z;have y:W.drew.cell? ⟨w.heap.size,2,none⟩=some (Aj (a:Int))∧W.drew.cell? ⟨sb,a,none⟩=some (Aj i):=⟨k,z⟩;refine Cr [] [2,6] [] 9 (fun wq:World=>wq.cell? ⟨w.heap.size,2,none⟩=some (Aj (a:Int))∧wq.cell? ⟨sb,a,none⟩=some (Aj i)) ?_
  iterate 9 (first|refine Be ?_|refine Bj y ?_)
  refine Bb ?_;clear z;have H1:=Aq H1.o.drew;have q:=Aq q.o.drew
  replace u:W.drew.cell? ⟨w.heap.size,1,none⟩=some (Aj (d:Int)):=u
  replace k:W.drew.cell? ⟨w.heap.size,2,none⟩=some (Aj (a:Int)):=k
  replace j:W.drew.cell? ⟨w.heap.size,3,none⟩=some (Aj (b:Int)):=j
  replace f:w.heap.size<W.drew.heap.size:=f
  clear y;generalize W.drew=W at *;go_wp2_with fail
  refine(Fb _ _ _ _ H1.o _).mono ?_;rintro e O⟨rfl,rfl⟩;rw[D.o];go_wp2_with fail
  obtain⟨g,c',C,_,_,hg,F⟩:=Ce (HV.o W H1.o) (by omega);have cp:=F _ _ (Ek F1.o s.m.look)
  injection C with C
  subst C;have it:=H1.o.it;clear F;generalize c1:s.m.look=Z at *;have hh:=Aq c1;clear c1;generalize I:(if Z=1 then 1 else 0:Nat)=dd at *;have HD:=Aq I;clear I;have y:W.drew.cell? ⟨sb,72,none⟩=some (Aj Z)∧W.drew.cell? ⟨g,i*2+dd,none⟩=some (Aj (Cf Z p)):=⟨it,cp⟩;refine Cr [7] [6,9] [] 11 (fun wq:World=>wq.cell? ⟨sb,72,none⟩=some (Aj Z)∧wq.cell? ⟨g,i*2+dd,none⟩=some (Aj (Cf Z p))) ?_
  iterate 7 (first|refine Be ?_|refine Bj y ?_)
  refine Bi fun K r=>?_;go_simp
  refine(Dt _ _ _ _ J.1 J.2).mono ?_;rintro e O⟨rfl,rfl⟩;rw[HD.o];dsimp only;refine r _ _ (fun _=>y) ?_;clear r K
  iterate 3 (first|refine Be ?_|refine Bj y ?_)
  refine Bb ?_;clear cp it;have H1:=Aq H1.o.drew;have q:=Aq q.o.drew
  replace u:W.drew.cell? ⟨w.heap.size,1,none⟩=some (Aj (d:Int)):=u
  replace k:W.drew.cell? ⟨w.heap.size,2,none⟩=some (Aj (a:Int)):=k
  replace j:W.drew.cell? ⟨w.heap.size,3,none⟩=some (Aj (b:Int)):=j
  replace f:w.heap.size<W.drew.heap.size:=f
  clear y;generalize W.drew=W at *;go_wp2_with fail
  have fz:=H1.o.drew.aG.frozen d;have c0:=H1.o.drew.fR P;have y:W.drew.cell? ⟨w.heap.size,1,none⟩=some (Aj (d:Int)):=u;refine Cr [7] [2] [] 8 (fun wq:World=>wq.cell? ⟨w.heap.size,1,none⟩=some (Aj (d:Int))) ?_
  iterate 7 (first|refine Be ?_|refine Bj y ?_)
  refine Bi fun K r=>?_;go_simp
  refine Bh r ?_;clear r K;refine Bb ?_;go_wp2;go_end0;exact S.o ▸ .put H1.o.drew q.o.drew P r2.o
 ·have G:cJ s.m x=false:=by simpa using X
  have S:=Aq (show Ll s l d x = { s with aW:=s.aW.set d 0 } by unfold Ll;rw[if_neg X]);have D:=Aq G;clear h U V R hS N z B X G;go_enter Tryz.func138,Tryz.ntmps138;go_wp2_with fail
  generalize Y:w.alloc (.cells #[Aj op,Aj (d:Int),Aj (a:Int),Aj (b:Int),Aj n] 50)=W at *;obtain⟨r0,u,k,j,r4,H1,q,f⟩:=H.o.box Y;clear Y;have z:=H1.o.fR E;rw[T.o]at z;have y:W.drew.cell? ⟨w.heap.size,2,none⟩=some (Aj (a:Int))∧W.drew.cell? ⟨sb,a,none⟩=some (Aj x):=⟨k,z⟩;refine Cr [] [2,6] [] 9 (fun wq:World=>wq.cell? ⟨w.heap.size,2,none⟩=some (Aj (a:Int))∧wq.cell? ⟨sb,a,none⟩=some (Aj x)) ?_
  iterate 9 (first|refine Be ?_|refine Bj y ?_)
  refine Bb ?_;clear z;have H1:=Aq H1.o.drew;have q:=Aq q.o.drew
  replace u:W.drew.cell? ⟨w.heap.size,1,none⟩=some (Aj (d:Int)):=u
  replace k:W.drew.cell? ⟨w.heap.size,2,none⟩=some (Aj (a:Int)):=k
  replace j:W.drew.cell? ⟨w.heap.size,3,none⟩=some (Aj (b:Int)):=j
  replace f:w.heap.size<W.drew.heap.size:=f
  clear y;generalize W.drew=W at *;go_wp2_with fail
  refine(Fb _ _ _ _ H1.o _).mono ?_;rintro e O⟨rfl,rfl⟩;rw[D.o];go_wp2_with fail
  have fz:=H1.o.drew.aG.frozen d;have c0:=H1.o.drew.fR P;have y:W.drew.cell? ⟨w.heap.size,1,none⟩=some (Aj (d:Int)):=u;refine Cr [7] [2] [] 8 (fun wq:World=>wq.cell? ⟨w.heap.size,1,none⟩=some (Aj (d:Int))) ?_
  iterate 7 (first|refine Be ?_|refine Bj y ?_)
  refine Bi fun K r=>?_;go_simp
  refine Bh r ?_;clear r K;refine Bb ?_;go_wp2;go_end0;exact S.o ▸ .put H1.o.drew q.o.drew P ⟨by decide,by decide⟩
def Wy (s:Sr.St)(p d:Int):Sr.St:=if cJ s.m p then { s with m:=bm s.m p.toNat s.m.move (Cf s.m.move (s.m.aF.getD p.toNat (0,0))+d) } else s
def lg (s:Sr.St)(p v:Int):Sr.St:=if s.m.look=s.m.move∧cJ s.m p then { s with m:=bm s.m p.toNat s.m.move v } else s
def Ix (s:Sr.St)(p q:Int):Sr.St:=if s.m.look=s.m.move∧cJ s.m p∧cJ s.m q then { s with m:=bm s.m q.toNat s.m.move (Cf s.m.move (s.m.aF.getD p.toNat (0,0))) } else s
theorem Wr (w:World)(sb:Nat)(L:bK)(s:Sr.St)(h:au w sb L s)(x d:Int)(B:bI d):Calls Tryz.prog 141 #[.pointer (some ⟨sb,0,none⟩),Aj x,Aj d] w (bB w sb L (Wy s x d)):=by
 have H:=Aq h;have J:=h.aG.lt;have I:=h.ok.m.cX;unfold bI at B;clear h;by_cases y:cJ s.m x=true
 ·have r:=Aq y;obtain⟨i,rfl,Z⟩:=Ih y;clear y;have k:=Aq (show Wy s i d = { s with m:=bm s.m i s.m.move (Cf s.m.move (s.m.aF.getD i (0,0))+d) } by unfold Wy;rw[if_pos r.o,Cw]);have E:=Aq (fun (W:World) (q:au W sb L s) (v:Int)=>Om W sb L s q i v Z);have X:=H.o.ok.m.move;obtain⟨g,c,x,j,S,a,G,f,_⟩:=H.o.pt (p:=i) Z;have F:bI (Cf s.m.move x):=by
   have:=H.o.ok.m.aF x (Bx a);unfold Cf;split
   ·exact this.2
   ·exact this.1
  have h_:=H.o.h_;rw[j]at h_;have gg:=H.o.gg;have D:=f s.m.move;have A:=Aq (Da (d:=(0,0)) a);unfold bI at F;clear f j a S;generalize l:s.m.move=u at *;have C:=Aq l;clear l;generalize Y:(if u=1 then 1 else 0:Nat)=P at *;have Q:=Aq Y;clear Y;rw[A.o]at k;go_enter Tryz.func141,Tryz.ntmps141;go_wp2_with fail
  refine(Fb _ _ _ _ H.o _).mono ?_;rintro e V⟨rfl,rfl⟩;rw[r.o];go_wp2_with fail
  have b:w.drew.cell? ⟨sb,65,none⟩=some (.slice (some ⟨g,0,none⟩) s.m.aF.length c)∧w.drew.cell? ⟨sb,73,none⟩=some (Aj u)∧w.drew.cell? ⟨g,i*2+P,none⟩=some (Aj (Cf u x)):=⟨h_,gg,D⟩;refine Bq (fun i=>!([13,18]:List Nat).contains i) (fun i=>([6,12,15]:List Nat).contains i) (fun i=>([]:List Nat).contains i) [0,1,2,3,4,5,6,7,8,9,10,11,12,16,13,14,15,17,18] (fun wq:World=>wq.cell? ⟨sb,65,none⟩=some (.slice (some ⟨g,0,none⟩) s.m.aF.length c)∧wq.cell? ⟨sb,73,none⟩=some (Aj u)∧wq.cell? ⟨g,i*2+P,none⟩=some (Aj (Cf u x))) (by kernel_rfl) (by kernel_rfl) (by kernel_rfl) (by kernel_rfl) ?_
  iterate 14 (first|refine Be ?_|refine Bj b ?_)
  refine Bi fun K z=>?_;go_simp
  refine(Dt _ _ _ _ X.1 X.2).mono ?_;rintro e V⟨rfl,rfl⟩;rw[Q.o];dsimp only;refine z _ _ (fun _=>b) ?_;clear z K
  iterate 3 (first|refine Be ?_|refine Bj b ?_)
  refine Bi fun K z=>?_;go_simp
  refine(E.o w.drew H.o.drew _).mono ?_;intro e M U;have R:=Aq (U.bL (qu _ w).drew);obtain⟨rfl,_⟩:=U;dsimp only;refine Bh z ?_;clear z K;refine Bb ?_;go_wp2;go_end0;have q:=R.o;rw[Do _ (by omega)]at q;rw[k.o];exact C.o ▸ q
 ·have n:cJ s.m x=false:=by simpa using y
  have k:=Aq (show Wy s x d=s by unfold Wy;rw[if_neg y]);have r:=Aq n;clear y n;rw[k.o];go_enter Tryz.func141,Tryz.ntmps141;go_wp2_with fail
  refine(Fb _ _ _ _ H.o _).mono ?_;rintro e V⟨rfl,rfl⟩;rw[r.o];go_wp2;go_end0;exact .dD H.o (qu _ w)
theorem Zel (w:World)(sb:Nat)(L:bK)(s:Sr.St)(h:au w sb L s)(x v:Int):Calls Tryz.prog 143 #[.pointer (some ⟨sb,0,none⟩),Aj x,Aj v] w (bB w sb L (lg s x v)):=by
 have H:=Aq h;have g:=h.aG.lt;have f:=h.ok.m.cX;have it:=h.it;have gg:=h.gg;clear h;by_cases u:s.m.look=s.m.move
 ·rw[u]at it;by_cases z:cJ s.m x=true
  ·have q:=Aq z;obtain⟨i,rfl,c⟩:=Ih z;have k:=Aq (show lg s i v = { s with m:=bm s.m i s.m.move v } by unfold lg;rw[if_pos ⟨u,z⟩,Cw]);clear z u;go_enter Tryz.func143,Tryz.ntmps143;go_wp2_with fail
   have y:w.drew.cell? ⟨sb,72,none⟩=some (Aj s.m.move)∧w.drew.cell? ⟨sb,73,none⟩=some (Aj s.m.move):=⟨it,gg⟩;refine Cr [12] [3,7] [] 14 (fun wq:World=>wq.cell? ⟨sb,72,none⟩=some (Aj s.m.move)∧wq.cell? ⟨sb,73,none⟩=some (Aj s.m.move)) ?_
   iterate 11 (first|refine Be ?_|refine Bj y ?_)
   go_simp
   iterate 1 (first|refine Be ?_|refine Bj y ?_)
   refine Bi fun K p=>?_;go_simp
   refine(Fb _ _ _ _ H.o.drew _).mono ?_;rintro e d⟨rfl,rfl⟩;rw[q.o];dsimp only;refine Bh p ?_;clear p K
   iterate 1 (first|refine Be ?_|refine Bj y ?_)
   refine Bb ?_;go_wp2_with fail
   refine(Om _ _ _ _ H.o.drew i v c).mono ?_;intro e l a;have b:=Aq (a.bL (qu _ w).drew);obtain⟨rfl,_⟩:=a;go_wp2;go_end0;rw[k.o];exact b.o
  ·have r:cJ s.m x=false:=by simpa using z
   have k:=Aq (show lg s x v=s by unfold lg;rw[if_neg (fun e=>z e.2)]);have q:=Aq r;clear z r u;go_enter Tryz.func143,Tryz.ntmps143;go_wp2_with fail
   have y:w.drew.cell? ⟨sb,72,none⟩=some (Aj s.m.move)∧w.drew.cell? ⟨sb,73,none⟩=some (Aj s.m.move):=⟨it,gg⟩;refine Cr [12] [3,7] [] 14 (fun wq:World=>wq.cell? ⟨sb,72,none⟩=some (Aj s.m.move)∧wq.cell? ⟨sb,73,none⟩=some (Aj s.m.move)) ?_
   iterate 11 (first|refine Be ?_|refine Bj y ?_)
   go_simp
   iterate 1 (first|refine Be ?_|refine Bj y ?_)
   refine Bi fun K p=>?_;go_simp
   refine(Fb _ _ _ _ H.o.drew _).mono ?_;rintro e d⟨rfl,rfl⟩;rw[q.o];dsimp only;refine Bh p ?_;clear p K
   iterate 1 (first|refine Be ?_|refine Bj y ?_)
   refine Bb ?_;go_wp2;go_end0;rw[k.o];exact .dD H.o.drew (qu _ w).drew
 ·have j:(s.m.look==s.m.move)=false:=by simpa using u
  have k:=Aq (show lg s x v=s by unfold lg;rw[if_neg (fun e=>u e.1)]);clear u;go_enter Tryz.func143,Tryz.ntmps143;go_wp2_with fail
  have y:w.drew.cell? ⟨sb,72,none⟩=some (Aj s.m.look)∧w.drew.cell? ⟨sb,73,none⟩=some (Aj s.m.move):=⟨it,gg⟩;refine Cr [] [3,7] [] 14 (fun wq:World=>wq.cell? ⟨sb,72,none⟩=some (Aj s.m.look)∧wq.cell? ⟨sb,73,none⟩=some (Aj s.m.move)) ?_
  iterate 10 (first|refine Be ?_|refine Bj y ?_)
  go_simp;refine Ch rfl rfl rfl (by kernel_rfl) (fun _ _ _ h=>h) ?_;refine Ch rfl rfl rfl (by kernel_rfl) (fun _ _ _ h=>h) ?_;refine Ch rfl rfl rfl (by kernel_rfl) (fun _ _ _ h=>h) ?_
  iterate 1 (first|refine Be ?_|refine Bj y ?_)
  refine Bb ?_;go_wp2;go_end0;rw[k.o];exact .dD H.o.drew (qu _ w).drew
theorem Wx (w:World)(sb:Nat)(L:bK)(s:Sr.St)(h:au w sb L s)(x y:Int):Calls Tryz.prog 145 #[.pointer (some ⟨sb,0,none⟩),Aj x,Aj y] w (bB w sb L (Ix s x y)):=by
 have H:=Aq h;have F:=h.aG.lt;have hK:=h.ok.m.cX;have it:=h.it;have gg:=h.gg;clear h;by_cases r:s.m.look=s.m.move
 ·rw[r]at it;by_cases q:cJ s.m x=true
  ·have l:=Aq q;by_cases a:cJ s.m y=true
   ·have X:=Aq a;obtain⟨i,rfl,J⟩:=Ih q;obtain⟨j,rfl,hS⟩:=Ih a;have k:=Aq (show Ix s i j = { s with m:=bm s.m j s.m.move (Cf s.m.move (s.m.aF.getD i (0,0))) } by unfold Ix;rw[if_pos ⟨r,q,a⟩,Cw,Cw]);have O:=Aq (fun (W:World) (D:au W sb L s) (v:Int)=>Om W sb L s D j v hS);clear q r a;go_enter Tryz.func145,Tryz.ntmps145;go_wp2_with fail
    have z:w.drew.cell? ⟨sb,72,none⟩=some (Aj s.m.move)∧w.drew.cell? ⟨sb,73,none⟩=some (Aj s.m.move):=⟨it,gg⟩;refine Cr [12,17] [3,7] [] 19 (fun wq:World=>wq.cell? ⟨sb,72,none⟩=some (Aj s.m.move)∧wq.cell? ⟨sb,73,none⟩=some (Aj s.m.move)) ?_
    iterate 11 (first|refine Be ?_|refine Bj z ?_)
    go_simp
    iterate 1 (first|refine Be ?_|refine Bj z ?_)
    refine Bi fun K u=>?_;go_simp
    refine(Fb _ _ _ _ H.o.drew _).mono ?_;rintro e f⟨rfl,rfl⟩;rw[l.o];dsimp only;refine u _ _ (fun _=>z) ?_;clear u K
    iterate 3 (first|refine Be ?_|refine Bj z ?_)
    go_simp
    iterate 1 (first|refine Be ?_|refine Bj z ?_)
    refine Bi fun K u=>?_;go_simp
    refine(Fb _ _ _ _ H.o.drew _).mono ?_;rintro e f⟨rfl,rfl⟩;rw[X.o];dsimp only;refine Bh u ?_;clear u K
    iterate 1 (first|refine Be ?_|refine Bj z ?_)
    refine Bb ?_;clear z it gg;have H1:=Aq H.o.drew;have N:=Aq (qu (eZ L sb) w).drew;have hz:sb<w.drew.heap.size:=F;go_wp2_with fail
    generalize w.drew=W at *;have P:=H.o.ok.m.move;obtain⟨g,c,x,Z,E,n,hg,Y,_⟩:=H1.o.pt (p:=i) J;have T:bI (Cf s.m.move x):=by
     have:=H.o.ok.m.aF x (Bx n);unfold Cf;split
     ·exact this.2
     ·exact this.1
    have h_:=H1.o.h_;rw[Z]at h_;have gg:=H1.o.gg;have M:=Y s.m.move;have G:=Aq (Da (d:=(0,0)) n);unfold bI at T;clear Y Z n E;generalize U:s.m.move=b at *;have I:=Aq U;clear U;generalize Q:(if b=1 then 1 else 0:Nat)=A at *;have B:=Aq Q;clear Q;rw[G.o]at k;have z:W.drew.cell? ⟨sb,65,none⟩=some (.slice (some ⟨g,0,none⟩) s.m.aF.length c)∧W.drew.cell? ⟨sb,73,none⟩=some (Aj b)∧W.drew.cell? ⟨g,i*2+A,none⟩=some (Aj (Cf b x)):=⟨h_,gg,M⟩;refine Cr [13,16] [6,12,15] [] 17 (fun wq:World=>wq.cell? ⟨sb,65,none⟩=some (.slice (some ⟨g,0,none⟩) s.m.aF.length c)∧wq.cell? ⟨sb,73,none⟩=some (Aj b)∧wq.cell? ⟨g,i*2+A,none⟩=some (Aj (Cf b x))) ?_
    iterate 13 (first|refine Be ?_|refine Bj z ?_)
    refine Bi fun K u=>?_;go_simp
    refine(Dt _ _ _ _ P.1 P.2).mono ?_;rintro e f⟨rfl,rfl⟩;rw[B.o];dsimp only;refine u _ _ (fun _=>z) ?_;clear u K
    iterate 2 (first|refine Be ?_|refine Bj z ?_)
    refine Bi fun K u=>?_;go_simp
    refine(O.o W.drew H1.o.drew _).mono ?_;intro e w9 R;have C:=Aq (R.bL N.o.drew);obtain⟨rfl,_⟩:=R;dsimp only;refine Bh u ?_;clear u K;refine Bb ?_;go_wp2;go_end0;rw[k.o];exact I.o ▸ C.o
   ·have S:cJ s.m y=false:=by simpa using a
    have k:=Aq (show Ix s x y=s by unfold Ix;rw[if_neg (fun e=>a e.2.2)]);have X:=Aq S;clear q r a S;go_enter Tryz.func145,Tryz.ntmps145;go_wp2_with fail
    have z:w.drew.cell? ⟨sb,72,none⟩=some (Aj s.m.move)∧w.drew.cell? ⟨sb,73,none⟩=some (Aj s.m.move):=⟨it,gg⟩;refine Cr [12,17] [3,7] [] 19 (fun wq:World=>wq.cell? ⟨sb,72,none⟩=some (Aj s.m.move)∧wq.cell? ⟨sb,73,none⟩=some (Aj s.m.move)) ?_
    iterate 11 (first|refine Be ?_|refine Bj z ?_)
    go_simp
    iterate 1 (first|refine Be ?_|refine Bj z ?_)
    refine Bi fun K u=>?_;go_simp
    refine(Fb _ _ _ _ H.o.drew _).mono ?_;rintro e f⟨rfl,rfl⟩;rw[l.o];dsimp only;refine u _ _ (fun _=>z) ?_;clear u K
    iterate 3 (first|refine Be ?_|refine Bj z ?_)
    go_simp
    iterate 1 (first|refine Be ?_|refine Bj z ?_)
    refine Bi fun K u=>?_;go_simp
    refine(Fb _ _ _ _ H.o.drew _).mono ?_;rintro e f⟨rfl,rfl⟩;rw[X.o];dsimp only;refine Bh u ?_;clear u K
    iterate 1 (first|refine Be ?_|refine Bj z ?_)
    refine Bb ?_;go_wp2;go_end0;rw[k.o];exact .dD H.o.drew (qu _ w).drew
  ·have V:cJ s.m x=false:=by simpa using q
   have k:=Aq (show Ix s x y=s by unfold Ix;rw[if_neg (fun e=>q e.2.1)]);have l:=Aq V;clear q V r;go_enter Tryz.func145,Tryz.ntmps145;go_wp2_with fail
   have z:w.drew.cell? ⟨sb,72,none⟩=some (Aj s.m.move)∧w.drew.cell? ⟨sb,73,none⟩=some (Aj s.m.move):=⟨it,gg⟩;refine Cr [12] [3,7] [] 19 (fun wq:World=>wq.cell? ⟨sb,72,none⟩=some (Aj s.m.move)∧wq.cell? ⟨sb,73,none⟩=some (Aj s.m.move)) ?_
   iterate 11 (first|refine Be ?_|refine Bj z ?_)
   go_simp
   iterate 1 (first|refine Be ?_|refine Bj z ?_)
   refine Bi fun K u=>?_;go_simp
   refine(Fb _ _ _ _ H.o.drew _).mono ?_;rintro e f⟨rfl,rfl⟩;rw[l.o];dsimp only;refine Bh u ?_;clear u K
   iterate 2 (first|refine Be ?_|refine Bj z ?_)
   go_simp;refine Ch rfl rfl rfl (by kernel_rfl) (fun _ _ _ h=>h) ?_;refine Ch rfl rfl rfl (by kernel_rfl) (fun _ _ _ h=>h) ?_;refine Ch rfl rfl rfl (by kernel_rfl) (fun _ _ _ h=>h) ?_
   iterate 1 (first|refine Be ?_|refine Bj z ?_)
   refine Bb ?_;go_wp2;go_end0;rw[k.o];exact .dD H.o.drew (qu _ w).drew
 ·have hb:(s.m.look==s.m.move)=false:=by simpa using r
  have k:=Aq (show Ix s x y=s by unfold Ix;rw[if_neg (fun e=>r e.1)]);clear r;go_enter Tryz.func145,Tryz.ntmps145;go_wp2_with fail
  have z:w.drew.cell? ⟨sb,72,none⟩=some (Aj s.m.look)∧w.drew.cell? ⟨sb,73,none⟩=some (Aj s.m.move):=⟨it,gg⟩;refine Cr [] [3,7] [] 19 (fun wq:World=>wq.cell? ⟨sb,72,none⟩=some (Aj s.m.look)∧wq.cell? ⟨sb,73,none⟩=some (Aj s.m.move)) ?_
  iterate 10 (first|refine Be ?_|refine Bj z ?_)
  go_simp;refine Ch rfl rfl rfl (by kernel_rfl) (fun _ _ _ h=>h) ?_;refine Ch rfl rfl rfl (by kernel_rfl) (fun _ _ _ h=>h) ?_;refine Ch rfl rfl rfl (by kernel_rfl) (fun _ _ _ h=>h) ?_
  iterate 2 (first|refine Be ?_|refine Bj z ?_)
  go_simp;refine Ch rfl rfl rfl (by kernel_rfl) (fun _ _ _ h=>h) ?_;refine Ch rfl rfl rfl (by kernel_rfl) (fun _ _ _ h=>h) ?_;refine Ch rfl rfl rfl (by kernel_rfl) (fun _ _ _ h=>h) ?_
  iterate 1 (first|refine Be ?_|refine Bj z ?_)
  refine Bb ?_;go_wp2;go_end0;rw[k.o];exact .dD H.o.drew (qu _ w).drew
theorem s40 (x:Int)(w:World):Calls Tryz.prog 105 #[Aj x] w fun e w'=>e=.returned (Aj x)∧w=w':=by
 go_enter Tryz.func105,Tryz.ntmps105;go_wp2;go_ret;exact⟨rfl,rfl⟩
theorem s5 (x y:Int)(w:World)(u:bI x)(z:bI y):Calls Tryz.prog 107 #[Aj x,Aj y] w fun e w'=>e=.returned (Aj (x+y))∧w=w':=by
 unfold bI at u z;go_enter Tryz.func107,Tryz.ntmps107;go_wp2;go_ret;exact⟨rfl,rfl⟩
theorem s6 (x y:Int)(w:World)(u:bI x)(z:bI y):Calls Tryz.prog 108 #[Aj x,Aj y] w fun e w'=>e=.returned (Aj (x-y))∧w=w':=by
 unfold bI at u z;go_enter Tryz.func108,Tryz.ntmps108;go_wp2;go_ret;exact⟨rfl,rfl⟩
theorem s7 (x y:Int)(w:World)(u:bI x)(z:bI y):Calls Tryz.prog 109 #[Aj x,Aj y] w fun e w'=>e=.returned (Aj (bA (x*y / 64)))∧w=w':=by
 unfold bI at u z;have v:=Aq (Zha u z);go_enter Tryz.func109,Tryz.ntmps109;go_wp2_with fail
 refine(Dy _ _).mono ?_;rintro e w1⟨rfl,rfl⟩;go_wp2;go_ret;exact⟨Cl (by rw[v.o]),rfl⟩
theorem s8 (x y:Int)(w:World)(z:bI x)(_hy:bI y):Calls Tryz.prog 110 #[Aj x,Aj y] w fun e w'=>e=.returned (Aj (bA (eT (64*x) y)))∧w=w':=by
 unfold bI at z _hy;go_enter Tryz.func110,Tryz.ntmps110;go_wp2_with fail
 refine(Hy _ _ _).mono ?_;rintro e w1⟨rfl,rfl⟩;go_wp2_with fail
 refine(Dy _ _).mono ?_;rintro e w1⟨rfl,rfl⟩;go_wp2;go_ret;have u:=Zcl (a:=64*x) (b:=y) (by omega) (by omega);exact⟨Cl (by rw[Iw (by omega) (by omega)]),rfl⟩
theorem s9 (x:Int)(w:World)(y:bI x):Calls Tryz.prog 112 #[Aj x] w fun e w'=>e=.returned (Aj (-x))∧w=w':=by
 unfold bI at y;go_enter Tryz.func112,Tryz.ntmps112;go_wp2;go_ret;exact⟨rfl,rfl⟩
theorem s10 (x:Int)(w:World)(y:bI x):Calls Tryz.prog 113 #[Aj x] w fun e w'=>e=.returned (Aj (max x (-x)))∧w=w':=by
 unfold bI at y;go_enter Tryz.func113,Tryz.ntmps113;go_wp2
 all_goals
  go_ret;exact⟨Cl (by omega),rfl⟩
theorem s11 (x y:Int)(w:World)(_hx:bI x)(_hy:bI y):Calls Tryz.prog 114 #[Aj x,Aj y] w fun e w'=>e=.returned (Aj (min x y))∧w=w':=by
 unfold bI at _hx _hy;go_enter Tryz.func114,Tryz.ntmps114;go_wp2
 all_goals
  go_ret;exact⟨Cl (by omega),rfl⟩
theorem s12 (x y:Int)(w:World)(_hx:bI x)(_hy:bI y):Calls Tryz.prog 115 #[Aj x,Aj y] w fun e w'=>e=.returned (Aj (max x y))∧w=w':=by
 unfold bI at _hx _hy;go_enter Tryz.func115,Tryz.ntmps115;go_wp2
 all_goals
  go_ret;exact⟨Cl (by omega),rfl⟩
theorem s13 (x:Int)(w:World)(_hx:bI x):Calls Tryz.prog 116 #[Aj x] w fun e w'=>e=.returned (Aj (Cx 4 x))∧w=w':=by
 unfold bI at _hx;go_enter Tryz.func116,Tryz.ntmps116;go_wp2_with fail
 refine(Fo _ _ _).mono ?_;rintro e w1⟨rfl,rfl⟩;go_wp2;go_ret;exact⟨rfl,rfl⟩
theorem s14 (x:Int)(w:World)(_hx:bI x):Calls Tryz.prog 118 #[Aj x] w fun e w'=>e=.returned (Aj (Cx 5 x))∧w=w':=by
 unfold bI at _hx;go_enter Tryz.func118,Tryz.ntmps118;go_wp2_with fail
 refine(Fo _ _ _).mono ?_;rintro e w1⟨rfl,rfl⟩;go_wp2;go_ret;exact⟨rfl,rfl⟩
theorem s16 (x y:Int)(w:World)(_hx:bI x)(_hy:bI y):Calls Tryz.prog 120 #[Aj x,Aj y] w fun e w'=>e=.returned (Aj (bC (decide (x<y))))∧w=w':=by
 unfold bI at _hx _hy;go_enter Tryz.func120,Tryz.ntmps120;go_wp2_with fail
 refine(Gg _ _).mono ?_;rintro e w1⟨rfl,rfl⟩;go_wp2;go_ret;exact⟨Cl (by first|rfl|(congr 1;simp)),rfl⟩
theorem s17 (x y:Int)(w:World)(_hx:bI x)(_hy:bI y):Calls Tryz.prog 122 #[Aj x,Aj y] w fun e w'=>e=.returned (Aj (bC (decide (x≤y))))∧w=w':=by
 unfold bI at _hx _hy;go_enter Tryz.func122,Tryz.ntmps122;go_wp2_with fail
 refine(Gg _ _).mono ?_;rintro e w1⟨rfl,rfl⟩;go_wp2;go_ret;exact⟨Cl (by first|rfl|(congr 1;simp)),rfl⟩
theorem s18 (x y:Int)(w:World)(_hx:bI x)(_hy:bI y):Calls Tryz.prog 123 #[Aj x,Aj y] w fun e w'=>e=.returned (Aj (bC (decide (x=y))))∧w=w':=by
 unfold bI at _hx _hy;go_enter Tryz.func123,Tryz.ntmps123;go_wp2_with fail
 refine(Gg _ _).mono ?_;rintro e w1⟨rfl,rfl⟩;go_wp2;go_ret;exact⟨Cl (by first|rfl|(congr 1;simp)),rfl⟩
theorem s19 (x:Int)(w:World)(_hx:bI x):Calls Tryz.prog 124 #[Aj x] w fun e w'=>e=.returned (Aj (bC (decide (x=0))))∧w=w':=by
 unfold bI at _hx;go_enter Tryz.func124,Tryz.ntmps124;go_wp2_with fail
 refine(Gg _ _).mono ?_;rintro e w1⟨rfl,rfl⟩;go_wp2;go_ret;exact⟨Cl (by first|rfl|(congr 1;simp)),rfl⟩
theorem s20 (x y:Int)(w:World)(k:bI x)(u:bI y):Calls Tryz.prog 125 #[Aj x,Aj y] w fun e w'=>e=.returned (Aj (bC (decide (x≠0∧y≠0))))∧w=w':=by
 unfold bI at k u;rcases Decidable.em (x=0) with h|h <;> rcases Decidable.em (y=0) with z|z
 all_goals
  have v:=Aq (show bC (decide (x≠0∧y≠0))=bC (decide (x≠0) && decide (y≠0)) by simp)
  first|subst h|have q:(x != 0)=true:=by simp[h]
  first|subst z|have p:(y != 0)=true:=by simp[z]
  go_enter Tryz.func125,Tryz.ntmps125;go_wp2_with fail
  refine(Gg _ _).mono ?_;rintro e w1⟨rfl,rfl⟩;go_wp2;go_ret;rw[v.o];refine⟨Cl ?_,rfl⟩
  simp_all
theorem s21 (x y:Int)(w:World)(k:bI x)(u:bI y):Calls Tryz.prog 126 #[Aj x,Aj y] w fun e w'=>e=.returned (Aj (bC (decide (x≠0∨y≠0))))∧w=w':=by
 unfold bI at k u;rcases Decidable.em (x=0) with h|h <;> rcases Decidable.em (y=0) with z|z
 all_goals
  have v:=Aq (show bC (decide (x≠0∨y≠0))=bC (decide (x≠0) || decide (y≠0)) by simp)
  first|subst h|have q:(x != 0)=true:=by simp[h]
  first|subst z|have p:(y != 0)=true:=by simp[z]
  go_enter Tryz.func126,Tryz.ntmps126;go_wp2_with fail
  refine(Gg _ _).mono ?_;rintro e w1⟨rfl,rfl⟩;go_wp2;go_ret;rw[v.o];refine⟨Cl ?_,rfl⟩
  simp_all
end
end Go.Proofs.YtnhebmgibiomnaaGreat
