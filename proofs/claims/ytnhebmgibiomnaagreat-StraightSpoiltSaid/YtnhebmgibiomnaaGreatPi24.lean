import Derived.Test.YtnhebmgibiomnaaGreatPi19
set_option linter.unusedVariables false
set_option linter.unusedSimpArgs false
set_option maxRecDepth 100000
set_option maxHeartbeats 8000000
namespace Go.Proofs.YtnhebmgibiomnaaGreat
section
namespace Mr
open Mc Hd
def lF (s t:St):Prop:=s.aT=t.aT∧s.aF=t.aF∧s.aB=t.aB∧s.aJ=t.aJ∧s.aP=t.aP∧s.store=t.store∧s.stack=t.stack∧s.steps=t.steps∧s.aM=t.aM
theorem lF.refl (s:St):lF s s:=⟨rfl,rfl,rfl,rfl,rfl,rfl,rfl,rfl,rfl⟩
theorem lF.symm {s t:St}(h:lF s t):lF t s:=⟨h.1.symm,h.2.1.symm,h.2.2.1.symm,h.2.2.2.1.symm,h.2.2.2.2.1.symm,h.2.2.2.2.2.1.symm,h.2.2.2.2.2.2.1.symm,h.2.2.2.2.2.2.2.1.symm,h.2.2.2.2.2.2.2.2.symm⟩
def Er (s:St):Prop:=(s.br=0∨s.br=50∨s.br=51∨s.br=52∨s.br=54)∧(s.br≠0→s.ai=true)
theorem Zel (s:St)(op a b:Int):Fv s op a b=0∨Fv s op a b=50∨Fv s op a b=51∨Fv s op a b=52∨Fv s op a b=54:=by
 unfold Fv
 repeat' split
 all_goals simp
theorem Ke (s:St):lF (next s).1 s:=by
 unfold next;split
 ·exact lF.refl s
 ·split
  ·exact⟨rfl,rfl,rfl,rfl,rfl,rfl,rfl,rfl,rfl⟩
  ·exact⟨rfl,rfl,rfl,rfl,rfl,rfl,rfl,rfl,rfl⟩
theorem Zkn {s:St}(h:Er s):Er (next s).1:=by
 unfold next;split
 ·exact h
 ·rename_i y;split
  ·refine⟨?_,fun _=>rfl⟩;simp only;exact h.1
  ·simp only;refine⟨Zel _ _ _ _,fun x=>?_⟩;simp only at x ⊢;exact decide_eq_true x
theorem fZ {s:St}(h:s.ai=true):next s=(s,none):=by
 unfold next;rw[if_pos h]
theorem Lb {s s':St}{x:Int×Int} (h:next s=(s',some x)):s'.br=0∧s'.ai=false∧s.ai=false:=by
 unfold next at h;split at h
 ·simp at h
 ·rename_i u;split at h
  ·simp at h
  ·simp only[Prod.mk.injEq]at h;obtain⟨k,y⟩:=h;split at y
   ·rename_i z;subst k;exact⟨z,decide_eq_false (fun v=>v z),by simpa using u⟩
   ·cases y
theorem Ms {s s':St} (h:next s=(s',none)):s'.ai=true:=by
 unfold next at h;split at h
 ·rename_i y;simp at h;subst h;exact y
 ·split at h
  ·simp at h;subst h;rfl
  ·simp only[Prod.mk.injEq]at h;obtain⟨z,x⟩:=h;split at x
   ·cases x
   ·rename_i u;subst z;exact decide_eq_true u
theorem Zdl (s:St):Same s (Lq s):=by
 unfold Lq;split
 ·exact⟨rfl,rfl,rfl,rfl,rfl⟩
 ·exact⟨rfl,rfl,rfl,rfl,rfl⟩
theorem dN {s s':St} (h:next s=(s',none)):Mc.step s=(s',false):=by unfold Mc.step;rw[h]
theorem fL {s s':St}{x:Int×Int} (h:next s=(s',some x)):∃t,Mc.step s=(t,true)∧t.steps=s.steps+1∧s.aM≤t.aM∧t.br=0∧t.ai=false:=by
 have y:=Ke s;rw[h]at y;have z:=Lb h;obtain⟨b,q,a,r,p⟩:=Zdl s';obtain⟨c,u,k,v,d5⟩:=Nb x.1 x.2 (Lq s');refine⟨_,by unfold Mc.step;rw[h],?_,?_,?_,?_⟩
 ·simp only;rw[v,r,y.2.2.2.2.2.2.2.1]
 ·simp only;rw[d5,p,y.2.2.2.2.2.2.2.2];exact Nat.le_max_left _ _
 ·simp only;rw[k,a];exact z.1
 ·simp only;rw[u,q];exact z.2.1
theorem Wx (s:St)(h:Er s):(∃t,Mc.step s=(t,true)∧t.steps=s.steps+1∧s.aM≤t.aM∧Er t∧s.br=0)∨∃t,Mc.step s=(t,false)∧lF t s∧Er t∧t.ai=true:=by
 rcases y:next s with⟨p,o⟩
 cases o with
 |none =>
  have v:=Ke s;have z:=Zkn h;rw[y]at v z;exact .inr ⟨p,dN y,v,z,Ms y⟩
 |some x =>
  obtain⟨t,q,b,r,u,c⟩:=fL y;refine .inl ⟨t,q,b,r,⟨.inl u,fun a=>absurd u a⟩,?_⟩;have:=(Lb y).2.2;by_cases k:s.br=0
  ·exact k
  ·rw[h.2 k]at this;cases this
theorem Ww {s:St}(h:s.ai=true):Mc.step s=(s,false):=dN (fZ h)
def lI:Nat→St→St
 |0,s=>s
 |n+1,s=>lI n (Mc.step s).1
theorem Xz (n:Nat){s:St}(h:s.ai=true):lI n s=s:=by
 induction n with
 |zero=>rfl
 |succ n ih=>rw[lI,Ww h,ih]
theorem Vr (n:Nat){s:St}(h:Er s):lF (lI n s) (Mc.run n s):=by
 induction n generalizing s with
 |zero =>
  unfold Mc.run;rw[Mc.steps];simp only;have:=Ke s;rcases v:next s with⟨u,o⟩
  rw[v]at this;cases o with
  |none=>exact this.symm
  |some x=>exact this.symm
 |succ n ih =>
  rcases Wx s h with⟨t,e,_,_,z,_⟩|⟨t,e,_,_,y⟩
  ·rw[lI,e];have:Mc.run (n+1) s=Mc.run n t:=by unfold Mc.run;rw[Mc.steps,e]
   rw[this];exact ih z
  ·rw[lI,e,Xz n y];have:Mc.run (n+1) s=t:=by unfold Mc.run;rw[Mc.steps,e]
   rw[this];exact lF.refl t
theorem Wl (p:Pg)(z:Zn):Er (ah p z):=⟨.inl rfl,fun h=>absurd rfl h⟩
end Mr
namespace Mr
open Mc Hd
structure Sz (n m k:Nat) (s:St):Prop where
 aT:s.aT.length=n
 aF:s.aF.length=n
 aB:s.aB.length=n
 aJ:s.aJ.length=m
 aP:s.aP.length=k
 store:s.store.length=32
theorem gg (l:List Int)(i v:Int):(Iy l i v).length=l.length:=by unfold Iy;split <;> simp
theorem Zv (aT:List (Int×Int)) (axis:Int) (c:Nat×Nat) (a b:Nat):∀(n p:Nat) (aF:List (Int×Int)),(seg aT axis c a b n p aF).length=aF.length
 |0,_,_=>rfl
 |n+1,p,aF=>by
  rw[seg];split
  ·rfl
  ·rw[Zv aT axis c a b n,Pq,List.length_set]
theorem Mx {α β:Type}(f:List β→α→List β) (h:∀l x,(f l x).length=l.length):∀(xs:List α) (l:List β),(xs.foldl f l).length=l.length
 | [],_=>rfl
 |x::xs,l=>by rw[List.foldl_cons,Mx f h xs,h]
theorem Uh (aT:List (Int×Int)) (aB:List Int) (axis:Int) (aF:List (Int×Int)) (c:Nat×Nat):(Ir aT aB axis aF c).length=aF.length :=
 Mx _ (fun _ _=>Zv ..) _ _
theorem iN (s:St)(axis:Int):(Nq s axis).aF.length=s.aF.length:=Mx _ (fun _ _=>Uh ..) _ _
theorem fM {n m k:Nat}{s:St}(h:Sz n m k s)(p:Nat)(axis v:Int):Sz n m k (bn s p axis v):=⟨h.aT,by show (s.aF.set _ _).length=_;rw[List.length_set];exact h.aF,by show (s.aB.set _ _).length=_;rw[List.length_set];exact h.aB,h.aJ,h.aP,h.store⟩
theorem Sz.same {n m k:Nat}{s t:St}(h:Sz n m k s)(e:t.aT=s.aT∧t.aF=s.aF∧t.aB=s.aB∧t.aJ=s.aJ∧t.aP=s.aP∧t.store=s.store):Sz n m k t :=
 ⟨by rw[e.1];exact h.aT,by rw[e.2.1];exact h.aF,by rw[e.2.2.1];exact h.aB,by rw[e.2.2.2.1];exact h.aJ,by rw[e.2.2.2.2.1];exact h.aP,by rw[e.2.2.2.2.2];exact h.store⟩
theorem Zaw {n m k:Nat}{s:St}(h:Sz n m k s)(a:Int):Sz n m k (cC s a):=by unfold cC;split;exact h;exact h.same ⟨rfl,rfl,rfl,rfl,rfl,rfl⟩
theorem Zdj {n m k:Nat}{s:St}(h:Sz n m k s)(a b:Int):Sz n m k (call s a b):=by unfold call;split;exact h.same ⟨rfl,rfl,rfl,rfl,rfl,rfl⟩;exact h
theorem ip {n m k:Nat}{s:St}(h:Sz n m k s)(op a:Int):Sz n m k (deed op a s):=by
 have y:Sz n m k { s with stack:=s.stack.drop 1 } := h.same ⟨rfl,rfl,rfl,rfl,rfl,rfl⟩;have x:Sz n m k { s with stack:=s.stack.drop 2 } := h.same ⟨rfl,rfl,rfl,rfl,rfl,rfl⟩;unfold deed;simp only;split <;> (first|exact h.same ⟨rfl,rfl,rfl,rfl,rfl,rfl⟩|exact Zaw h _|exact Zdj h _ _|exact Zdj y _ _|skip)
 ·exact⟨h.aT,h.aF,h.aB,h.aJ,by show (Iy _ _ _).length=_;rw[gg];exact h.aP,h.store⟩
 ·exact⟨h.aT,h.aF,h.aB,h.aJ,h.aP,by show (Iy _ _ _).length=_;rw[gg];exact h.store⟩
 ·split
  ·exact fM x _ _ _
  ·exact x
 ·split
  ·exact fM x _ _ _
  ·exact x
 ·split
  ·exact fM x _ _ _
  ·exact x
 ·exact⟨h.aT,by rw[iN];exact h.aF,h.aB,h.aJ,h.aP,h.store⟩
 ·split
  ·exact Zaw y _
  ·exact y
theorem Zkm {n m k:Nat}{s:St}(h:Sz n m k s):Sz n m k (next s).1:=by
 have:=Ke s;exact h.same ⟨this.1,this.2.1,this.2.2.1,this.2.2.2.1,this.2.2.2.2.1,this.2.2.2.2.2.1⟩
theorem Zld {n m k:Nat}{s:St}(h:Sz n m k s):Sz n m k (Lq s):=by unfold Lq;split;exact h;exact h.same ⟨rfl,rfl,rfl,rfl,rfl,rfl⟩
theorem Zil {n m k:Nat}{s:St}(h:Sz n m k s):Sz n m k (Mc.step s).1:=by
 rcases u:next s with⟨y,o⟩
 have z:=Zkm h;rw[u]at z;cases o with
 |none=>rw[dN u];exact z
 |some x =>
  have:(Mc.step s).1 = { deed x.1 x.2 (Lq y) with steps:=(deed x.1 x.2 (Lq y)).steps+1,aM:=max (deed x.1 x.2 (Lq y)).aM (deed x.1 x.2 (Lq y)).stack.length } := by unfold Mc.step;rw[u]
  rw[this];exact(ip (Zld z) x.1 x.2).same ⟨rfl,rfl,rfl,rfl,rfl,rfl⟩
theorem Zkr {n m k:Nat}(j:Nat){s:St}(h:Sz n m k s):Sz n m k (lI j s):=by
 induction j generalizing s with
 |zero=>exact h
 |succ j ih=>rw[lI];exact ih (Zil h)
theorem i_ {n m k:Nat}(j:Nat){s:St}(h:Sz n m k s)(x:Er s):Sz n m k (Mc.run j s):=by
 have:=Vr j x;exact(Zkr j h).same ⟨this.1.symm,this.2.1.symm,this.2.2.1.symm,this.2.2.2.1.symm,this.2.2.2.2.1.symm,this.2.2.2.2.2.1.symm⟩
theorem jH (p:Pg)(z:Zn):Sz z.aF.length z.aJ.length p.aP.length (ah p z):=⟨by simp[ah],by simp[ah],by simp[ah],by simp[ah],by simp[ah],by simp[ah]⟩
theorem Mq {s s':St}{x:Int×Int} (h:next s=(s',some x)):∃b,Fv s' x.1 x.2 b=0:=by
 unfold next at h;split at h
 ·simp at h
 ·split at h
  ·simp at h
  ·simp only[Prod.mk.injEq]at h;obtain⟨z,y⟩:=h;split at y
   ·rename_i f r v u;simp only[Option.some.injEq]at y;subst y;subst z;exact⟨_,u⟩
   ·cases y
theorem Wu {s:St}(h:s.stack.length≤32):(Mc.step s).1.stack.length≤32:=by
 rcases u:next s with⟨y,o⟩
 have v:=Ke s;rw[u]at v;have p:y.stack=s.stack:=v.2.2.2.2.2.2.1;cases o with
 |none=>rw[dN u];rw[p];exact h
 |some x =>
  have:(Mc.step s).1.stack=(deed x.1 x.2 (Lq y)).stack:=by unfold Mc.step;rw[u]
  rw[this];obtain⟨b,z⟩:=Mq u;have k:(Lq y).stack=y.stack:=by unfold Lq;split <;> rfl
  unfold Fv at z;split at z
  ·cases z
  ·rename_i r;split at z
   ·cases z
   ·rename_i q;rw[Ku x.1 x.2 (Lq y) (by omega) (by omega),k];omega
theorem Xy (j:Nat){s:St}(h:s.stack.length≤32):(lI j s).stack.length≤32:=by
 induction j generalizing s with
 |zero=>exact h
 |succ j ih=>rw[lI];exact ih (Wu h)
theorem Zae (j:Nat){s:St}(h:s.stack.length≤32)(x:Er s):(Mc.run j s).stack.length≤32:=by
 have:=Vr j x;rw[←this.2.2.2.2.2.2.1];exact Xy j h
theorem kF (j:Nat)(p:Pg)(z:Zn)(y:z.aF.length≤1000000)(x:z.aJ.length≤1000000)(u:p.aP.length≤1000000) :
  (Mc.run j (ah p z)).aT.length≤1000000∧(Mc.run j (ah p z)).aF.length≤1000000∧(Mc.run j (ah p z)).aB.length≤1000000∧(Mc.run j (ah p z)).aJ.length≤1000000∧(Mc.run j (ah p z)).aP.length≤1000000∧(Mc.run j (ah p z)).store.length=32∧(Mc.run j (ah p z)).stack.length≤32:=by
 obtain⟨a,b,c,d,e,f⟩:=i_ j (jH p z) (Wl p z);exact⟨by omega,by omega,by omega,by omega,by omega,f,Zae j (by simp[ah]) (Wl p z)⟩
end Mr
end
end Go.Proofs.YtnhebmgibiomnaaGreat
