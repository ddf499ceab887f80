import Derived.Test.YtnhebmgibiomnaaGreatPh19
set_option linter.unusedVariables false
set_option linter.unusedSimpArgs false
set_option maxRecDepth 100000
set_option maxHeartbeats 8000000
namespace Go.Proofs.YtnhebmgibiomnaaGreat
section
namespace Mr
open Mc Hd
def lC (s t:St):Prop:=s.aT=t.aT∧s.aF=t.aF∧s.aB=t.aB∧s.aJ=t.aJ∧s.aP=t.aP∧s.store=t.store∧s.stack=t.stack∧s.steps=t.steps∧s.aL=t.aL
theorem lC.refl (s:St):lC s s:=⟨rfl,rfl,rfl,rfl,rfl,rfl,rfl,rfl,rfl⟩
theorem lC.symm {s t:St}(h:lC s t):lC t s:=⟨h.1.symm,h.2.1.symm,h.2.2.1.symm,h.2.2.2.1.symm,h.2.2.2.2.1.symm,h.2.2.2.2.2.1.symm,h.2.2.2.2.2.2.1.symm,h.2.2.2.2.2.2.2.1.symm,h.2.2.2.2.2.2.2.2.symm⟩
def Er (s:St):Prop:=(s.bp=0∨s.bp=50∨s.bp=51∨s.bp=52∨s.bp=54)∧(s.bp≠0→s.ai=true)
theorem Zdy (s:St)(op a b:Int):Fj s op a b=0∨Fj s op a b=50∨Fj s op a b=51∨Fj s op a b=52∨Fj s op a b=54:=by
 unfold Fj
 repeat' split
 all_goals simp
theorem Jt (s:St):lC (next s).1 s:=by
 unfold next;split
 ·exact lC.refl s
 ·split
  ·exact⟨rfl,rfl,rfl,rfl,rfl,rfl,rfl,rfl,rfl⟩
  ·exact⟨rfl,rfl,rfl,rfl,rfl,rfl,rfl,rfl,rfl⟩
theorem Zka {s:St}(h:Er s):Er (next s).1:=by
 unfold next;split
 ·exact h
 ·rename_i y;split
  ·refine⟨?_,fun _=>rfl⟩;simp only;exact h.1
  ·simp only;refine⟨Zdy _ _ _ _,fun x=>?_⟩;simp only at x ⊢;exact decide_eq_true x
theorem fV {s:St}(h:s.ai=true):next s=(s,none):=by
 unfold next;rw[if_pos h]
theorem Kq {s s':St}{x:Int×Int} (h:next s=(s',some x)):s'.bp=0∧s'.ai=false∧s.ai=false:=by
 unfold next at h;split at h
 ·simp at h
 ·rename_i u;split at h
  ·simp at h
  ·simp only[Prod.mk.injEq]at h;obtain⟨k,z⟩:=h;split at z
   ·rename_i y;subst k;exact⟨y,decide_eq_false (fun v=>v y),by simpa using u⟩
   ·cases z
theorem Md {s s':St} (h:next s=(s',none)):s'.ai=true:=by
 unfold next at h;split at h
 ·rename_i y;simp at h;subst h;exact y
 ·split at h
  ·simp at h;subst h;rfl
  ·simp only[Prod.mk.injEq]at h;obtain⟨u,x⟩:=h;split at x
   ·cases x
   ·rename_i z;subst u;exact decide_eq_true z
theorem Zcy (s:St):Same s (Le s):=by
 unfold Le;split
 ·exact⟨rfl,rfl,rfl,rfl,rfl⟩
 ·exact⟨rfl,rfl,rfl,rfl,rfl⟩
theorem dM {s s':St} (h:next s=(s',none)):Mc.step s=(s',false):=by unfold Mc.step;rw[h]
theorem fM {s s':St}{x:Int×Int} (h:next s=(s',some x)):∃t,Mc.step s=(t,true)∧t.steps=s.steps+1∧s.aL≤t.aL∧t.bp=0∧t.ai=false:=by
 have y:=Jt s;rw[h]at y;have z:=Kq h;obtain⟨c,q,r,v,k⟩:=Zcy s';obtain⟨b,p,u,a,d5⟩:=Mo x.1 x.2 (Le s');refine⟨_,by unfold Mc.step;rw[h],?_,?_,?_,?_⟩
 ·simp only;rw[a,v,y.2.2.2.2.2.2.2.1]
 ·simp only;rw[d5,k,y.2.2.2.2.2.2.2.2];exact Nat.le_max_left _ _
 ·simp only;rw[u,r];exact z.1
 ·simp only;rw[p,q];exact z.2.1
theorem Wn (s:St)(h:Er s):(∃t,Mc.step s=(t,true)∧t.steps=s.steps+1∧s.aL≤t.aL∧Er t∧s.bp=0)∨∃t,Mc.step s=(t,false)∧lC t s∧Er t∧t.ai=true:=by
 rcases y:next s with⟨r,o⟩
 cases o with
 |none =>
  have k:=Jt s;have z:=Zka h;rw[y]at k z;exact .inr ⟨r,dM y,k,z,Md y⟩
 |some x =>
  obtain⟨t,b,p,q,u,c⟩:=fM y;refine .inl ⟨t,b,p,q,⟨.inl u,fun a=>absurd u a⟩,?_⟩;have:=(Kq y).2.2;by_cases v:s.bp=0
  ·exact v
  ·rw[h.2 v]at this;cases this
theorem Wm {s:St}(h:s.ai=true):Mc.step s=(s,false):=dM (fV h)
def lD:Nat→St→St
 |0,s=>s
 |n+1,s=>lD n (Mc.step s).1
theorem Xo (n:Nat){s:St}(h:s.ai=true):lD n s=s:=by
 induction n with
 |zero=>rfl
 |succ n ih=>rw[lD,Wm h,ih]
theorem Vh (n:Nat){s:St}(h:Er s):lC (lD n s) (Mc.run n s):=by
 induction n generalizing s with
 |zero =>
  unfold Mc.run;rw[Mc.steps];simp only;have:=Jt s;rcases y:next s with⟨u,o⟩
  rw[y]at this;cases o with
  |none=>exact this.symm
  |some x=>exact this.symm
 |succ n ih =>
  rcases Wn s h with⟨t,e,_,_,z,_⟩|⟨t,e,_,_,v⟩
  ·rw[lD,e];have:Mc.run (n+1) s=Mc.run n t:=by unfold Mc.run;rw[Mc.steps,e]
   rw[this];exact ih z
  ·rw[lD,e,Xo n v];have:Mc.run (n+1) s=t:=by unfold Mc.run;rw[Mc.steps,e]
   rw[this];exact lC.refl t
theorem Wa (p:Pg)(z:Zn):Er (ah p z):=⟨.inl rfl,fun h=>absurd rfl h⟩
end Mr
namespace Mr
open Mc Hd
structure Sz (n m k:Nat) (s:St):Prop where
 aT:s.aT.length=n
 aF:s.aF.length=n
 aB:s.aB.length=n
 aJ:s.aJ.length=m
 aP:s.aP.length=k
 store:s.store.length=32
theorem gi (l:List Int)(i v:Int):(Ip l i v).length=l.length:=by unfold Ip;split <;> simp
theorem Zj (aT:List (Int×Int)) (axis:Int) (c:Nat×Nat) (a b:Nat):∀(n p:Nat) (aF:List (Int×Int)),(seg aT axis c a b n p aF).length=aF.length
 |0,_,_=>rfl
 |n+1,p,aF=>by
  rw[seg];split
  ·rfl
  ·rw[Zj aT axis c a b n,Pc,List.length_set]
theorem Mi {α β:Type}(f:List β→α→List β) (h:∀l x,(f l x).length=l.length):∀(xs:List α) (l:List β),(xs.foldl f l).length=l.length
 | [],_=>rfl
 |x::xs,l=>by rw[List.foldl_cons,Mi f h xs,h]
theorem Tw (aT:List (Int×Int)) (aB:List Int) (axis:Int) (aF:List (Int×Int)) (c:Nat×Nat):(Ij aT aB axis aF c).length=aF.length :=
 Mi _ (fun _ _=>Zj ..) _ _
theorem iW (s:St)(axis:Int):(Nf s axis).aF.length=s.aF.length:=Mi _ (fun _ _=>Tw ..) _ _
theorem fN {n m k:Nat}{s:St}(h:Sz n m k s)(p:Nat)(axis v:Int):Sz n m k (bm s p axis v):=⟨h.aT,by show (s.aF.set _ _).length=_;rw[List.length_set];exact h.aF,by show (s.aB.set _ _).length=_;rw[List.length_set];exact h.aB,h.aJ,h.aP,h.store⟩
theorem Sz.same {n m k:Nat}{s t:St}(h:Sz n m k s)(e:t.aT=s.aT∧t.aF=s.aF∧t.aB=s.aB∧t.aJ=s.aJ∧t.aP=s.aP∧t.store=s.store):Sz n m k t :=
 ⟨by rw[e.1];exact h.aT,by rw[e.2.1];exact h.aF,by rw[e.2.2.1];exact h.aB,by rw[e.2.2.2.1];exact h.aJ,by rw[e.2.2.2.2.1];exact h.aP,by rw[e.2.2.2.2.2];exact h.store⟩
theorem Zal {n m k:Nat}{s:St}(h:Sz n m k s)(a:Int):Sz n m k (bv s a):=by unfold bv;split;exact h;exact h.same ⟨rfl,rfl,rfl,rfl,rfl,rfl⟩
theorem Zcw {n m k:Nat}{s:St}(h:Sz n m k s)(a b:Int):Sz n m k (call s a b):=by unfold call;split;exact h.same ⟨rfl,rfl,rfl,rfl,rfl,rfl⟩;exact h
theorem iX {n m k:Nat}{s:St}(h:Sz n m k s)(op a:Int):Sz n m k (deed op a s):=by
 have y:Sz n m k { s with stack:=s.stack.drop 1 } := h.same ⟨rfl,rfl,rfl,rfl,rfl,rfl⟩;have x:Sz n m k { s with stack:=s.stack.drop 2 } := h.same ⟨rfl,rfl,rfl,rfl,rfl,rfl⟩;unfold deed;simp only;split <;> (first|exact h.same ⟨rfl,rfl,rfl,rfl,rfl,rfl⟩|exact Zal h _|exact Zcw h _ _|exact Zcw y _ _|skip)
 ·exact⟨h.aT,h.aF,h.aB,h.aJ,by show (Ip _ _ _).length=_;rw[gi];exact h.aP,h.store⟩
 ·exact⟨h.aT,h.aF,h.aB,h.aJ,h.aP,by show (Ip _ _ _).length=_;rw[gi];exact h.store⟩
 ·split
  ·exact fN x _ _ _
  ·exact x
 ·split
  ·exact fN x _ _ _
  ·exact x
 ·split
  ·exact fN x _ _ _
  ·exact x
 ·exact⟨h.aT,by rw[iW];exact h.aF,h.aB,h.aJ,h.aP,h.store⟩
 ·split
  ·exact Zal y _
  ·exact y
theorem Zjz {n m k:Nat}{s:St}(h:Sz n m k s):Sz n m k (next s).1:=by
 have:=Jt s;exact h.same ⟨this.1,this.2.1,this.2.2.1,this.2.2.2.1,this.2.2.2.2.1,this.2.2.2.2.2.1⟩
theorem Zks {n m k:Nat}{s:St}(h:Sz n m k s):Sz n m k (Le s):=by unfold Le;split;exact h;exact h.same ⟨rfl,rfl,rfl,rfl,rfl,rfl⟩
theorem Zhy {n m k:Nat}{s:St}(h:Sz n m k s):Sz n m k (Mc.step s).1:=by
 rcases z:next s with⟨y,o⟩
 have u:=Zjz h;rw[z]at u;cases o with
 |none=>rw[dM z];exact u
 |some x =>
  have:(Mc.step s).1 = { deed x.1 x.2 (Le y) with steps:=(deed x.1 x.2 (Le y)).steps+1,aL:=max (deed x.1 x.2 (Le y)).aL (deed x.1 x.2 (Le y)).stack.length } := by unfold Mc.step;rw[z]
  rw[this];exact(iX (Zks u) x.1 x.2).same ⟨rfl,rfl,rfl,rfl,rfl,rfl⟩
theorem Zke {n m k:Nat}(j:Nat){s:St}(h:Sz n m k s):Sz n m k (lD j s):=by
 induction j generalizing s with
 |zero=>exact h
 |succ j ih=>rw[lD];exact ih (Zhy h)
theorem i_ {n m k:Nat}(j:Nat){s:St}(h:Sz n m k s)(x:Er s):Sz n m k (Mc.run j s):=by
 have:=Vh j x;exact(Zke j h).same ⟨this.1.symm,this.2.1.symm,this.2.2.1.symm,this.2.2.2.1.symm,this.2.2.2.2.1.symm,this.2.2.2.2.2.1.symm⟩
theorem jC (p:Pg)(z:Zn):Sz z.aF.length z.aJ.length p.aP.length (ah p z):=⟨by simp[ah],by simp[ah],by simp[ah],by simp[ah],by simp[ah],by simp[ah]⟩
theorem Mb {s s':St}{x:Int×Int} (h:next s=(s',some x)):∃b,Fj s' x.1 x.2 b=0:=by
 unfold next at h;split at h
 ·simp at h
 ·split at h
  ·simp at h
  ·simp only[Prod.mk.injEq]at h;obtain⟨u,y⟩:=h;split at y
   ·rename_i f r v z;simp only[Option.some.injEq]at y;subst y;subst u;exact⟨_,z⟩
   ·cases y
theorem Wk {s:St}(h:s.stack.length≤32):(Mc.step s).1.stack.length≤32:=by
 rcases u:next s with⟨y,o⟩
 have v:=Jt s;rw[u]at v;have k:y.stack=s.stack:=v.2.2.2.2.2.2.1;cases o with
 |none=>rw[dM u];rw[k];exact h
 |some x =>
  have:(Mc.step s).1.stack=(deed x.1 x.2 (Le y)).stack:=by unfold Mc.step;rw[u]
  rw[this];obtain⟨b,z⟩:=Mb u;have p:(Le y).stack=y.stack:=by unfold Le;split <;> rfl
  unfold Fj at z;split at z
  ·cases z
  ·rename_i r;split at z
   ·cases z
   ·rename_i q;rw[Ki x.1 x.2 (Le y) (by omega) (by omega),p];omega
theorem Xn (j:Nat){s:St}(h:s.stack.length≤32):(lD j s).stack.length≤32:=by
 induction j generalizing s with
 |zero=>exact h
 |succ j ih=>rw[lD];exact ih (Wk h)
theorem Zt (j:Nat){s:St}(h:s.stack.length≤32)(x:Er s):(Mc.run j s).stack.length≤32:=by
 have:=Vh j x;rw[←this.2.2.2.2.2.2.1];exact Xn j h
theorem kD (j:Nat)(p:Pg)(z:Zn)(u:z.aF.length≤1000000)(y:z.aJ.length≤1000000)(x:p.aP.length≤1000000) :
  (Mc.run j (ah p z)).aT.length≤1000000∧(Mc.run j (ah p z)).aF.length≤1000000∧(Mc.run j (ah p z)).aB.length≤1000000∧(Mc.run j (ah p z)).aJ.length≤1000000∧(Mc.run j (ah p z)).aP.length≤1000000∧(Mc.run j (ah p z)).store.length=32∧(Mc.run j (ah p z)).stack.length≤32:=by
 obtain⟨a,b,c,d,e,f⟩:=i_ j (jC p z) (Wa p z);exact⟨by omega,by omega,by omega,by omega,by omega,f,Zt j (by simp[ah]) (Wa p z)⟩
end Mr
end
end Go.Proofs.YtnhebmgibiomnaaGreat
