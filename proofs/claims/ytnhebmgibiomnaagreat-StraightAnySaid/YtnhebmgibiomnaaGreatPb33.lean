/- Parts of the proof, joined: McLaw McSz. -/
import Derived.Test.YtnhebmgibiomnaaGreatPb27
set_option linter.unusedVariables false
set_option linter.unusedSimpArgs false
set_option maxRecDepth 100000
set_option maxHeartbeats 8000000
namespace Go.Proofs.YtnhebmgibiomnaaGreat
namespace Mr
open Mc Hd
def Vis (s t:St):Prop:=s.org=t.org∧s.cur=t.cur∧s.touch=t.touch∧s.ends=t.ends∧s.cvt=t.cvt∧s.store=t.store∧s.stack=t.stack∧s.steps=t.steps∧s.peak=t.peak
theorem Vis.refl (s:St):Vis s s:=⟨rfl,rfl,rfl,rfl,rfl,rfl,rfl,rfl,rfl⟩
theorem Vis.symm {s t:St} (h:Vis s t):Vis t s:=⟨h.1.symm,h.2.1.symm,h.2.2.1.symm,h.2.2.2.1.symm,h.2.2.2.2.1.symm,h.2.2.2.2.2.1.symm,h.2.2.2.2.2.2.1.symm,h.2.2.2.2.2.2.2.1.symm,h.2.2.2.2.2.2.2.2.symm⟩
def Er (s:St):Prop:=(s.err=0∨s.err=50∨s.err=51∨s.err=52∨s.err=54)∧(s.err≠0→s.ended=true)
theorem Ze (s:St) (op a b:Int):De s op a b=0∨De s op a b=50∨De s op a b=51∨De s op a b=52∨De s op a b=54:=by
 unfold De
 repeat' split
 all_goals simp
theorem Gy (s:St):Vis (next s).1 s:=by
 unfold next;split
 ·exact Vis.refl s
 ·split
  ·exact⟨rfl,rfl,rfl,rfl,rfl,rfl,rfl,rfl,rfl⟩
  ·exact⟨rfl,rfl,rfl,rfl,rfl,rfl,rfl,rfl,rfl⟩
theorem Zew {s:St} (h:Er s):Er (next s).1:=by
 unfold next;split
 ·exact h
 ·rename_i he;split
  ·refine⟨?_,fun _=>rfl⟩;simp only;exact h.1
  ·simp only;refine⟨Ze _ _ _ _,fun hh=>?_⟩;simp only at hh ⊢;exact decide_eq_true hh
theorem next_ended {s:St} (h:s.ended=true):next s=(s,none):=by
 unfold next;rw[if_pos h]
theorem Hw {s s':St} {x:Int×Int} (h:next s=(s',some x)):s'.err=0∧s'.ended=false∧s.ended=false:=by
 unfold next at h;split at h
 ·simp at h
 ·rename_i he;split at h
  ·simp at h
  ·simp only[Prod.mk.injEq] at h;obtain⟨h1,h2⟩:=h;split at h2
   ·rename_i h3;subst h1;exact⟨h3,decide_eq_false (fun hh=>hh h3),by simpa using he⟩
   ·cases h2
theorem Jk {s s':St} (h:next s=(s',none)):s'.ended=true:=by
 unfold next at h;split at h
 ·rename_i he;simp at h;subst h;exact he
 ·split at h
  ·simp at h;subst h;rfl
  ·simp only[Prod.mk.injEq] at h;obtain⟨h1,h2⟩:=h;split at h2
   ·cases h2
   ·rename_i h3;subst h1;exact decide_eq_true h3
theorem Yi (s:St):Same s (Ij s):=by
 unfold Ij;split
 ·exact⟨rfl,rfl,rfl,rfl,rfl⟩
 ·exact⟨rfl,rfl,rfl,rfl,rfl⟩
theorem step_none {s s':St} (h:next s=(s',none)):Mc.step s=(s',false):=by unfold Mc.step;rw[h]
theorem step_some {s s':St} {x:Int×Int} (h:next s=(s',some x)):∃ t,Mc.step s=(t,true)∧t.steps=s.steps+1∧s.peak≤t.peak∧t.err=0∧t.ended=false:=by
 have h0:=Gy s;rw[h] at h0;have he:=Hw h;obtain⟨b1,b2,b3,b4,b5⟩:=Yi s';obtain⟨d1,d2,d3,d4,d5⟩:=Ju x.1 x.2 (Ij s');refine⟨_,by unfold Mc.step;rw[h],?_,?_,?_,?_⟩
 ·simp only;rw[d4,b4,h0.2.2.2.2.2.2.2.1]
 ·simp only;rw[d5,b5,h0.2.2.2.2.2.2.2.2];exact Nat.le_max_left _ _
 ·simp only;rw[d3,b3];exact he.1
 ·simp only;rw[d2,b2];exact he.2.1
theorem Sg (s:St) (h:Er s):(∃ t,Mc.step s=(t,true)∧t.steps=s.steps+1∧s.peak≤t.peak∧Er t∧s.err=0)∨∃ t,Mc.step s=(t,false)∧Vis t s∧Er t∧t.ended=true:=by
 rcases hn:next s with⟨s',o⟩
 cases o with
 | none =>
  have h1:=Gy s;have h2:=Zew h;rw[hn] at h1 h2;exact .inr ⟨s',step_none hn,h1,h2,Jk hn⟩
 | some x =>
  obtain⟨t,e1,e2,e3,e4,e5⟩:=step_some hn;refine .inl ⟨t,e1,e2,e3,⟨.inl e4,fun hh=>absurd e4 hh⟩,?_⟩;have:=(Hw hn).2.2;by_cases hz:s.err=0
  ·exact hz
  ·rw[h.2 hz] at this;cases this
theorem Sf {s:St} (h:s.ended=true):Mc.step s=(s,false):=step_none (next_ended h)
def Yz:Nat→St→St
 | 0,s=>s
 | n+1,s=>Yz n (Mc.step s).1
theorem Tn (n:Nat) {s:St} (h:s.ended=true):Yz n s=s:=by
 induction n with
 | zero=>rfl
 | succ n ih=>rw[Yz,Sf h,ih]
theorem Rf (n:Nat) {s:St} (h:Er s):Vis (Yz n s) (Mc.run n s):=by
 induction n generalizing s with
 | zero =>
  unfold Mc.run;rw[Mc.steps];simp only;have:=Gy s;rcases hn:next s with⟨u,o⟩
  rw[hn] at this;cases o with
  | none=>exact this.symm
  | some x=>exact this.symm
 | succ n ih =>
  rcases Sg s h with⟨t,e,_,_,he,_⟩|⟨t,e,_,_,hd⟩
  ·rw[Yz,e];have:Mc.run (n+1) s=Mc.run n t:=by unfold Mc.run;rw[Mc.steps,e]
   rw[this];exact ih he
  ·rw[Yz,e,Tn n hd];have:Mc.run (n+1) s=t:=by unfold Mc.run;rw[Mc.steps,e]
   rw[this];exact Vis.refl t
theorem Rx (p:Pg) (z:Zn):Er (begin_ p z):=⟨.inl rfl,fun h=>absurd rfl h⟩
end Mr
namespace Mr
open Mc Hd
structure Sz (n m k:Nat) (s:St):Prop where
 org:s.org.length=n
 cur:s.cur.length=n
 touch:s.touch.length=n
 ends:s.ends.length=m
 cvt:s.cvt.length=k
 store:s.store.length=32
theorem put_len (l:List Int) (i v:Int):(Fz l i v).length=l.length:=by unfold Fz;split <;> simp
theorem Ve (org:List (Int×Int)) (axis:Int) (c:Nat×Nat) (a b:Nat):∀ (n p:Nat) (cur:List (Int×Int)),(seg org axis c a b n p cur).length=cur.length
 | 0,_,_=>rfl
 | n+1,p,cur=>by
  rw[seg];split
  ·rfl
  ·rw[Ve org axis c a b n,Lu,List.length_set]
theorem Jq {α β:Type} (f:List β→α→List β) (h:∀ l x,(f l x).length=l.length):∀ (xs:List α) (l:List β),(xs.foldl f l).length=l.length
 | [],_=>rfl
 | x::xs,l=>by rw[List.foldl_cons,Jq f h xs,h]
theorem Qb (org:List (Int×Int)) (touch:List Int) (axis:Int) (cur:List (Int×Int)) (c:Nat×Nat):(Ft org touch axis cur c).length=cur.length :=
 Jq _ (fun _ _=>Ve ..) _ _
theorem inter_len (s:St) (axis:Int):(Ki s axis).cur.length=s.cur.length:=Jq _ (fun _ _=>Qb ..) _ _
theorem goes_sz {n m k:Nat} {s:St} (h:Sz n m k s) (p:Nat) (axis v:Int):Sz n m k (goes s p axis v):=⟨h.org,by show (s.cur.set _ _).length=_;rw[List.length_set];exact h.cur,by show (s.touch.set _ _).length=_;rw[List.length_set];exact h.touch,h.ends,h.cvt,h.store⟩
theorem Sz.same {n m k:Nat} {s t:St} (h:Sz n m k s) (e:t.org=s.org∧t.cur=s.cur∧t.touch=s.touch∧t.ends=s.ends∧t.cvt=s.cvt∧t.store=s.store):Sz n m k t :=
 ⟨by rw[e.1];exact h.org,by rw[e.2.1];exact h.cur,by rw[e.2.2.1];exact h.touch,by rw[e.2.2.2.1];exact h.ends,by rw[e.2.2.2.2.1];exact h.cvt,by rw[e.2.2.2.2.2];exact h.store⟩
theorem Wb {n m k:Nat} {s:St} (h:Sz n m k s) (a:Int):Sz n m k (pass s a):=by unfold pass;split;exact h;exact h.same ⟨rfl,rfl,rfl,rfl,rfl,rfl⟩
theorem Yh {n m k:Nat} {s:St} (h:Sz n m k s) (a b:Int):Sz n m k (call s a b):=by unfold call;split;exact h.same ⟨rfl,rfl,rfl,rfl,rfl,rfl⟩;exact h
theorem deed_sz {n m k:Nat} {s:St} (h:Sz n m k s) (op a:Int):Sz n m k (deed op a s):=by
 have h1:Sz n m k { s with stack:=s.stack.drop 1 } := h.same ⟨rfl,rfl,rfl,rfl,rfl,rfl⟩;have h2:Sz n m k { s with stack:=s.stack.drop 2 } := h.same ⟨rfl,rfl,rfl,rfl,rfl,rfl⟩;unfold deed;simp only;split <;> (first|exact h.same ⟨rfl,rfl,rfl,rfl,rfl,rfl⟩|exact Wb h _|exact Yh h _ _|exact Yh h1 _ _|skip)
 ·exact⟨h.org,h.cur,h.touch,h.ends,by show (Fz _ _ _).length=_;rw[put_len];exact h.cvt,h.store⟩
 ·exact⟨h.org,h.cur,h.touch,h.ends,h.cvt,by show (Fz _ _ _).length=_;rw[put_len];exact h.store⟩
 ·split
  ·exact goes_sz h2 _ _ _
  ·exact h2
 ·split
  ·exact goes_sz h2 _ _ _
  ·exact h2
 ·split
  ·exact goes_sz h2 _ _ _
  ·exact h2
 ·exact⟨h.org,by rw[inter_len];exact h.cur,h.touch,h.ends,h.cvt,h.store⟩
 ·split
  ·exact Wb h1 _
  ·exact h1
theorem Zev {n m k:Nat} {s:St} (h:Sz n m k s):Sz n m k (next s).1:=by
 have:=Gy s;exact h.same ⟨this.1,this.2.1,this.2.2.1,this.2.2.2.1,this.2.2.2.2.1,this.2.2.2.2.2.1⟩
theorem Zfo {n m k:Nat} {s:St} (h:Sz n m k s):Sz n m k (Ij s):=by unfold Ij;split;exact h;exact h.same ⟨rfl,rfl,rfl,rfl,rfl,rfl⟩
theorem Zcw {n m k:Nat} {s:St} (h:Sz n m k s):Sz n m k (Mc.step s).1:=by
 rcases hn:next s with⟨s',o⟩
 have h0:=Zev h;rw[hn] at h0;cases o with
 | none=>rw[step_none hn];exact h0
 | some x =>
  have:(Mc.step s).1 = { deed x.1 x.2 (Ij s') with steps:=(deed x.1 x.2 (Ij s')).steps+1,peak:=max (deed x.1 x.2 (Ij s')).peak (deed x.1 x.2 (Ij s')).stack.length } := by unfold Mc.step;rw[hn]
  rw[this];exact(deed_sz (Zfo h0) x.1 x.2).same ⟨rfl,rfl,rfl,rfl,rfl,rfl⟩
theorem Zez {n m k:Nat} (j:Nat) {s:St} (h:Sz n m k s):Sz n m k (Yz j s):=by
 induction j generalizing s with
 | zero=>exact h
 | succ j ih=>rw[Yz];exact ih (Zcw h)
theorem run_sz {n m k:Nat} (j:Nat) {s:St} (h:Sz n m k s) (he:Er s):Sz n m k (Mc.run j s):=by
 have:=Rf j he;exact(Zez j h).same ⟨this.1.symm,this.2.1.symm,this.2.2.1.symm,this.2.2.2.1.symm,this.2.2.2.2.1.symm,this.2.2.2.2.2.1.symm⟩
theorem begin_sz (p:Pg) (z:Zn):Sz z.cur.length z.ends.length p.cvt.length (begin_ p z):=⟨by simp[begin_],by simp[begin_],by simp[begin_],by simp[begin_],by simp[begin_],by simp[begin_]⟩
theorem Jj {s s':St} {x:Int×Int} (h:next s=(s',some x)):∃ b,De s' x.1 x.2 b=0:=by
 unfold next at h;split at h
 ·simp at h
 ·split at h
  ·simp at h
  ·simp only[Prod.mk.injEq] at h;obtain⟨h1,h2⟩:=h;split at h2
   ·rename_i f r hset h3;simp only[Option.some.injEq] at h2;subst h2;subst h1;exact⟨_,h3⟩
   ·cases h2
theorem Sd {s:St} (h:s.stack.length≤32):(Mc.step s).1.stack.length≤32:=by
 rcases hn:next s with⟨s',o⟩
 have hv:=Gy s;rw[hn] at hv;have hs:s'.stack=s.stack:=hv.2.2.2.2.2.2.1;cases o with
 | none=>rw[step_none hn];rw[hs];exact h
 | some x =>
  have:(Mc.step s).1.stack=(deed x.1 x.2 (Ij s')).stack:=by unfold Mc.step;rw[hn]
  rw[this];obtain⟨b,hb⟩:=Jj hn;have hbs:(Ij s').stack=s'.stack:=by unfold Ij;split <;> rfl
  unfold De at hb;split at hb
  ·cases hb
  ·rename_i h1;split at hb
   ·cases hb
   ·rename_i h2;rw[Hp x.1 x.2 (Ij s') (by omega) (by omega),hbs];omega
theorem Tm (j:Nat) {s:St} (h:s.stack.length≤32):(Yz j s).stack.length≤32:=by
 induction j generalizing s with
 | zero=>exact h
 | succ j ih=>rw[Yz];exact ih (Sd h)
theorem Vl (j:Nat) {s:St} (h:s.stack.length≤32) (he:Er s):(Mc.run j s).stack.length≤32:=by
 have:=Rf j he;rw[←this.2.2.2.2.2.2.1];exact Tm j h
theorem run_small (j:Nat) (p:Pg) (z:Zn) (h1:z.cur.length≤1000000) (h2:z.ends.length≤1000000) (h3:p.cvt.length≤1000000) :
  (Mc.run j (begin_ p z)).org.length≤1000000∧(Mc.run j (begin_ p z)).cur.length≤1000000∧(Mc.run j (begin_ p z)).touch.length≤1000000∧(Mc.run j (begin_ p z)).ends.length≤1000000∧(Mc.run j (begin_ p z)).cvt.length≤1000000∧(Mc.run j (begin_ p z)).store.length=32∧(Mc.run j (begin_ p z)).stack.length≤32:=by
 obtain⟨a,b,c,d,e,f⟩:=run_sz j (begin_sz p z) (Rx p z);exact⟨by omega,by omega,by omega,by omega,by omega,f,Vl j (by simp[begin_]) (Rx p z)⟩
end Mr
end Go.Proofs.YtnhebmgibiomnaaGreat
