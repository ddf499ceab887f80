/- Parts of the proof, joined: HdS Holds BuM. -/
import Derived.Test.YtnhebmgibiomnaaGreatPb0
set_option linter.unusedVariables false
set_option linter.unusedSimpArgs false
set_option maxRecDepth 100000
set_option maxHeartbeats 8000000
namespace Go.Proofs.YtnhebmgibiomnaaGreat
namespace Hd
open Mc
theorem Mt {l:List (Int×Int)} {i m:Nat} {r:List Fm} (h:i<l.length):settle (⟨l,i,m⟩::r)=⟨l,i,m⟩::r:=by rw[settle,if_pos h]
theorem settle_end {l:List (Int×Int)} {r:List Fm}:settle (⟨l,l.length,0⟩::r)=settle r:=by rw[settle,if_neg (by simp),if_neg (by simp)]
theorem Ht {l:List (Int×Int)} {m:Nat} {r:List Fm} (h:0<l.length):settle (⟨l,l.length,m+1⟩::r)=settle (⟨l,0,m⟩::r):=by
 rw[settle,if_neg (by simp),if_pos ⟨by simp,h⟩,Mt h];rfl
theorem settle_empty {m:Nat} {r:List Fm}:settle (⟨[],0,m⟩::r)=settle r:=by rw[settle,if_neg (by simp),if_neg (by simp)]
def Same (s t:St):Prop:=t.funcs=s.funcs∧t.ended=s.ended∧t.err=s.err∧t.steps=s.steps∧t.peak=s.peak
theorem Ju (op a:Int) (s:St):Same s (deed op a s):=by
 unfold deed;simp only;split <;> (first|exact⟨rfl,rfl,rfl,rfl,rfl⟩|skip)
 all_goals (try unfold pass)
 all_goals (try unfold call)
 all_goals (repeat' split)
 all_goals exact⟨rfl,rfl,rfl,rfl,rfl⟩
theorem Jv (op a:Int) (s:St) (h1:1≤op) (h2:op<35∨op=39):(deed op a s).frames=s.frames:=by
 unfold deed;simp only;split <;> (first|rfl|skip)
 all_goals (try (exfalso;omega))
 all_goals (repeat' split)
 all_goals rfl
theorem Ik {p:Prop} [Decidable p] {s t:St}:(if p then s else t).stack=if p then s.stack else t.stack:=by split <;> rfl
theorem Kx (s:St) (a:Int):(pass s a).stack=s.stack:=by unfold pass;split <;> rfl
theorem Ld (s:St) (a b:Int):(call s a b).stack=s.stack:=by unfold call;split <;> rfl
theorem stack1 (a:Int) (s:St):(deed 1 a s).stack.length=s.stack.length-0+1:=rfl
theorem stack2 (a:Int) (s:St):(deed 2 a s).stack.length=s.stack.length-1+0:=by show (s.stack.drop 1).length=_;exact List.length_drop
theorem stack3 (a:Int) (s:St):(deed 3 a s).stack.length=s.stack.length-1+2:=by show (s.stack.drop 1).length+1+1=_;rw[List.length_drop]
theorem stack4 (a:Int) (s:St):(deed 4 a s).stack.length=s.stack.length-2+2:=by show (s.stack.drop 2).length+1+1=_;rw[List.length_drop]
theorem stack5 (a:Int) (s:St):(deed 5 a s).stack.length=s.stack.length-2+1:=by show (s.stack.drop 2).length+1=_;rw[List.length_drop]
theorem stack6 (a:Int) (s:St):(deed 6 a s).stack.length=s.stack.length-2+1:=by show (s.stack.drop 2).length+1=_;rw[List.length_drop]
theorem stack7 (a:Int) (s:St):(deed 7 a s).stack.length=s.stack.length-2+1:=by show (s.stack.drop 2).length+1=_;rw[List.length_drop]
theorem stack8 (a:Int) (s:St):(deed 8 a s).stack.length=s.stack.length-2+1:=by show (s.stack.drop 2).length+1=_;rw[List.length_drop]
theorem stack9 (a:Int) (s:St):(deed 9 a s).stack.length=s.stack.length-1+1:=by show (s.stack.drop 1).length+1=_;rw[List.length_drop]
theorem Zeb (a:Int) (s:St):(deed 10 a s).stack.length=s.stack.length-1+1:=by show (s.stack.drop 1).length+1=_;rw[List.length_drop]
theorem Zea (a:Int) (s:St):(deed 11 a s).stack.length=s.stack.length-2+1:=by show (s.stack.drop 2).length+1=_;rw[List.length_drop]
theorem Zdz (a:Int) (s:St):(deed 12 a s).stack.length=s.stack.length-2+1:=by show (s.stack.drop 2).length+1=_;rw[List.length_drop]
theorem Zdy (a:Int) (s:St):(deed 13 a s).stack.length=s.stack.length-1+1:=by show (s.stack.drop 1).length+1=_;rw[List.length_drop]
theorem Zdx (a:Int) (s:St):(deed 14 a s).stack.length=s.stack.length-1+1:=by show (s.stack.drop 1).length+1=_;rw[List.length_drop]
theorem Zdw (a:Int) (s:St):(deed 15 a s).stack.length=s.stack.length-1+1:=by show (s.stack.drop 1).length+1=_;rw[List.length_drop]
theorem Zdv (a:Int) (s:St):(deed 16 a s).stack.length=s.stack.length-2+1:=by show (s.stack.drop 2).length+1=_;rw[List.length_drop]
theorem Zdu (a:Int) (s:St):(deed 17 a s).stack.length=s.stack.length-2+1:=by show (s.stack.drop 2).length+1=_;rw[List.length_drop]
theorem Zdt (a:Int) (s:St):(deed 18 a s).stack.length=s.stack.length-2+1:=by show (s.stack.drop 2).length+1=_;rw[List.length_drop]
theorem Zds (a:Int) (s:St):(deed 19 a s).stack.length=s.stack.length-1+1:=by show (s.stack.drop 1).length+1=_;rw[List.length_drop]
theorem Zdr (a:Int) (s:St):(deed 20 a s).stack.length=s.stack.length-2+1:=by show (s.stack.drop 2).length+1=_;rw[List.length_drop]
theorem Zdq (a:Int) (s:St):(deed 21 a s).stack.length=s.stack.length-2+1:=by show (s.stack.drop 2).length+1=_;rw[List.length_drop]
theorem Zdp (a:Int) (s:St):(deed 22 a s).stack.length=s.stack.length-0+0:=rfl
theorem Zdo (a:Int) (s:St):(deed 23 a s).stack.length=s.stack.length-0+0:=rfl
theorem Zdn (a:Int) (s:St):(deed 24 a s).stack.length=s.stack.length-0+0:=rfl
theorem Zdm (a:Int) (s:St):(deed 25 a s).stack.length=s.stack.length-1+1:=by show (s.stack.drop 1).length+1=_;rw[List.length_drop]
theorem Zdl (a:Int) (s:St):(deed 26 a s).stack.length=s.stack.length-2+0:=by show (s.stack.drop 2).length=_;exact List.length_drop
theorem Zdk (a:Int) (s:St):(deed 27 a s).stack.length=s.stack.length-1+1:=by show (s.stack.drop 1).length+1=_;rw[List.length_drop]
theorem Zdj (a:Int) (s:St):(deed 28 a s).stack.length=s.stack.length-2+0:=by show (s.stack.drop 2).length=_;exact List.length_drop
theorem Zdi (a:Int) (s:St):(deed 29 a s).stack.length=s.stack.length-1+1:=by show (s.stack.drop 1).length+1=_;rw[List.length_drop]
theorem Zdh (a:Int) (s:St):(deed 30 a s).stack.length=s.stack.length-1+1:=by show (s.stack.drop 1).length+1=_;rw[List.length_drop]
theorem Zdg (a:Int) (s:St):(deed 31 a s).stack.length=s.stack.length-2+0:=by
 show (ite _ _ _:St).stack.length=_
 rw[Ik];split
 ·show (s.stack.drop 2).length=_;exact List.length_drop
 ·show (s.stack.drop 2).length=_;exact List.length_drop
theorem Zdf (a:Int) (s:St):(deed 32 a s).stack.length=s.stack.length-2+0:=by
 show (ite _ _ _:St).stack.length=_
 rw[Ik];split
 ·show (s.stack.drop 2).length=_;exact List.length_drop
 ·show (s.stack.drop 2).length=_;exact List.length_drop
theorem Zde (a:Int) (s:St):(deed 33 a s).stack.length=s.stack.length-2+0:=by
 show (ite _ _ _:St).stack.length=_
 rw[Ik];split
 ·show (s.stack.drop 2).length=_;exact List.length_drop
 ·show (s.stack.drop 2).length=_;exact List.length_drop
theorem Zdd (a:Int) (s:St):(deed 34 a s).stack.length=s.stack.length-0+0:=rfl
theorem Zdc (a:Int) (s:St):(deed 35 a s).stack.length=s.stack.length-0+0:=by show (pass s a).stack.length=_;rw[Kx];rfl
theorem Zdb (a:Int) (s:St):(deed 36 a s).stack.length=s.stack.length-1+0:=by
 show (ite _ _ _:St).stack.length=_
 rw[Ik];split
 ·rw[Kx];show (s.stack.drop 1).length=_;exact List.length_drop
 ·show (s.stack.drop 1).length=_;exact List.length_drop
theorem Zda (a:Int) (s:St):(deed 37 a s).stack.length=s.stack.length-0+0:=by show (call s a 1).stack.length=_;rw[Ld];rfl
theorem Zcz (a:Int) (s:St):(deed 38 a s).stack.length=s.stack.length-1+0:=by show (call { s with stack:=s.stack.drop 1 } a _).stack.length=_;rw[Ld];show (s.stack.drop 1).length=_;exact List.length_drop
theorem Zcy (a:Int) (s:St):(deed 39 a s).stack.length=s.stack.length-0+1:=rfl
theorem Hp (op a:Int) (s:St) (h1:1≤op) (h2:op≤39):(deed op a s).stack.length=s.stack.length-takes op+leaves op:=by
 have hc:op=1∨op=2∨op=3∨op=4∨op=5∨op=6∨op=7∨op=8∨op=9∨op=10∨op=11∨op=12∨op=13∨op=14∨op=15∨op=16∨op=17∨op=18∨op=19∨op=20∨op=21∨op=22∨op=23∨op=24∨op=25∨op=26∨op=27∨op=28∨op=29∨op=30∨op=31∨op=32∨op=33∨op=34∨op=35∨op=36∨op=37∨op=38∨op=39:=by omega
 rcases hc with rfl|rfl|rfl|rfl|rfl|rfl|rfl|rfl|rfl|rfl|rfl|rfl|rfl|rfl|rfl|rfl|rfl|rfl|rfl|rfl|rfl|rfl|rfl|rfl|rfl|rfl|rfl|rfl|rfl|rfl|rfl|rfl|rfl|rfl|rfl|rfl|rfl|rfl|rfl
 ·exact stack1 a s
 ·exact stack2 a s
 ·exact stack3 a s
 ·exact stack4 a s
 ·exact stack5 a s
 ·exact stack6 a s
 ·exact stack7 a s
 ·exact stack8 a s
 ·exact stack9 a s
 ·exact Zeb a s
 ·exact Zea a s
 ·exact Zdz a s
 ·exact Zdy a s
 ·exact Zdx a s
 ·exact Zdw a s
 ·exact Zdv a s
 ·exact Zdu a s
 ·exact Zdt a s
 ·exact Zds a s
 ·exact Zdr a s
 ·exact Zdq a s
 ·exact Zdp a s
 ·exact Zdo a s
 ·exact Zdn a s
 ·exact Zdm a s
 ·exact Zdl a s
 ·exact Zdk a s
 ·exact Zdj a s
 ·exact Zdi a s
 ·exact Zdh a s
 ·exact Zdg a s
 ·exact Zdf a s
 ·exact Zde a s
 ·exact Zdd a s
 ·exact Zdc a s
 ·exact Zdb a s
 ·exact Zda a s
 ·exact Zcz a s
 ·exact Zcy a s
end Hd
namespace Hd
open Mc
def Ext (at_:Nat) (pl P:List Bd.Place):Prop :=
 (∀ i:Nat,i≤at_→Bd.pat P i=Bd.pat pl i)∧∀ i:Nat,(Bd.pat pl i).known=true→(Bd.pat P i).known=true∧(Bd.pat P i).high=(Bd.pat pl i).high∧(Bd.pat pl i).steps≤(Bd.pat P i).steps
structure StepOK (n:Nat) (fs:List Bd.Cost) (P:List Bd.Place) (need peak:Int) (at_:Nat) (x:Int×Int):Prop where
 al:Bd.always n fs.length at_ x=0
 kn:(Bd.pat P at_).known=true→(Bd.effect fs (Bd.pat P at_) x).need≤need∧(Bd.effect fs (Bd.pat P at_) x).peak≤peak∧(x.1=38→(Bd.fn fs x.2).delta=0) ∧
  ∀ t∈Bd.ways at_ x,(Bd.pat P t).known=true∧(Bd.pat P t).high=(Bd.effect fs (Bd.pat P at_) x).high∧(Bd.effect fs (Bd.pat P at_) x).steps≤(Bd.pat P t).steps
structure Tab (n:Nat) (fs:List Bd.Cost) (l:List (Int×Int)) (c:Bd.Cost) (P:List Bd.Place):Prop where
 p0:(Bd.pat P 0).known=true∧(Bd.pat P 0).high=0∧(Bd.pat P 0).steps=0
 ok:∀ (i:Nat) x,l[i]?=some x→StepOK n fs P c.need c.peak i x
 de:c.delta=(Bd.pat P n).high
 st:c.steps=(Bd.pat P n).steps
 n0:0≤c.need
 k0:0≤c.peak
 n1:c.need≤32
 k1:c.peak≤32
 s1:c.steps≤4096
theorem Pf {pl:List Bd.Place} {t i:Nat} {q:Bd.Place} (h:t<pl.length):Bd.pat (pl.set t q) i=if i=t then q else Bd.pat pl i:=by
 unfold Bd.pat;rw[List.getD_eq_getElem?_getD,List.getD_eq_getElem?_getD,Int.toNat_natCast,List.getElem?_set];by_cases hi:i=t
 ·subst hi;simp[h]
 ·rw[if_neg (fun e=>hi e.symm),if_neg hi]
theorem ways_nat {n nf at_:Nat} {x:Int×Int} (h:Bd.always n nf at_ x=0) (ha:at_<n):∀ t∈Bd.ways at_ x,∃ m:Nat,t=m∧at_<m∧m≤n:=by
 intro t ht;unfold Bd.ways at ht;simp only[List.mem_append] at ht;rcases ht with ht|ht
 ·split at ht
  ·simp at ht
  ·simp at ht;exact⟨at_+1,by omega,by omega,by omega⟩
 ·split at ht
  ·rename_i hj;simp at ht;unfold Bd.always at h;split at h
   ·simp at h
   ·split at h
    ·simp at h
    ·rename_i hk;have:0≤x.2∧x.2≤(n:Int)-1-at_:=by
      by_cases hh:0≤x.2∧x.2≤(n:Int)-1-at_
      ·exact hh
      ·exact absurd ⟨hj,hh⟩ hk
     exact⟨(at_+1+x.2).toNat,by omega,by omega,by omega⟩
  ·simp at ht
theorem marks {n:Nat} {e:Bd.Eff}:∀ (ts:List Int) (pl:List Bd.Place),pl.length=n+1→(∀ t∈ts,∃ m:Nat,t=m∧m≤n) →
  (ts.foldl (Bd.mark e) pl).length=n+1 ∧
  (∀ i:Nat,(i:Int) ∉ ts→Bd.pat (ts.foldl (Bd.mark e) pl) i=Bd.pat pl i) ∧
  (∀ i:Nat,(i:Int)∈ts→(Bd.pat (ts.foldl (Bd.mark e) pl) i).known=true∧(Bd.pat (ts.foldl (Bd.mark e) pl) i).high=e.high∧e.steps≤(Bd.pat (ts.foldl (Bd.mark e) pl) i).steps) ∧
  (∀ i:Nat,(Bd.pat pl i).steps≤(Bd.pat (ts.foldl (Bd.mark e) pl) i).steps):=by
 intro ts
 induction ts with
 | nil=>intro pl hl _;exact⟨hl,fun _ _=>rfl,fun i hi=>by simp at hi,fun _=>Int.le_refl _⟩
 | cons t r ih =>
  intro pl hl ht;obtain⟨m,rfl,hm⟩:=ht t (by simp);have hml:m<pl.length:=by omega
  have hmk:Bd.mark e pl (m:Int)=pl.set m ⟨true,e.high,max (Bd.pat pl m).steps e.steps⟩:=by unfold Bd.mark;rw[Int.toNat_natCast]
  obtain⟨a1,a2,a3,a4⟩:=ih (Bd.mark e pl m) (by rw[hmk];simpa using hl) (fun t h=>ht t (by simp[h]));simp only[List.foldl_cons];refine⟨a1,fun i hi=>?_,fun i hi=>?_,fun i=>?_⟩
  ·simp only[List.mem_cons,not_or] at hi;rw[a2 i hi.2,hmk,Pf hml,if_neg (by omega)]
  ·by_cases hr:(i:Int)∈r
   ·exact a3 i hr
   ·have him:i=m:=by
     simp only[List.mem_cons] at hi;rcases hi with h|h
     ·omega
     ·exact absurd h hr
    rw[a2 i hr,hmk,Pf hml,if_pos him];exact⟨rfl,rfl,Int.le_max_right _ _⟩
  ·refine Int.le_trans ?_ (a4 i);rw[hmk,Pf hml];split
   ·rename_i h;subst h;exact Int.le_max_left _ _
   ·exact Int.le_refl _
theorem Sw (n:Nat) (fs:List Bd.Cost):∀ (r:List (Int×Int)) (at_:Nat) (s:Bd.St) (c:Bd.Cost),Bd.rest n fs r at_ s=(c,0,0)→s.pl.length=n+1→at_+r.length=n →
  ∃ P,Ext at_ s.pl P∧(∀ (i:Nat) x,r[i]?=some x→StepOK n fs P c.need c.peak (at_+i) x)∧c.delta=(Bd.pat P n).high∧c.steps=(Bd.pat P n).steps∧s.need≤c.need∧s.peak≤c.peak∧c.delta=(Bd.pat P n).high:=by
 intro r
 induction r with
 | nil =>
  intro at_ s c h hl hn;unfold Bd.rest at h;simp at h hn;subst h;refine⟨s.pl,⟨fun _ _=>rfl,fun i hi=>⟨hi,rfl,Int.le_refl _⟩⟩,fun i x hx=>by simp at hx,?_,?_,Int.le_refl _,Int.le_refl _,?_⟩ <;> simp only[hn]
 | cons x r ih =>
  intro at_ s c h hl hn;unfold Bd.rest at h;simp at hn;split at h
  ·rename_i hne;simp at h;exact absurd h.2.2 hne
  ·rename_i hz;have hz:(Bd.look n fs s at_ x).1=0:=by omega
   have hat:at_<n:=by omega
   unfold Bd.look at h hz;split at hz
   ·rename_i h1;exact absurd hz h1
   ·rename_i h1;rw[if_neg h1] at h;have hal:Bd.always n fs.length at_ x=0:=by omega
    have hw:=ways_nat hal hat;split at hz
    ·rename_i h2;rw[if_pos h2] at h;obtain⟨P,⟨e1,e2⟩,b,c1,c2,c3,c4,c5⟩:=ih (at_+1) s c (by simpa using h) hl (by omega);refine⟨P,⟨fun i hi=>e1 i (by omega),e2⟩,fun i y hy=>?_,c1,c2,c3,c4,c5⟩;cases i with
     | zero =>
      simp at hy;subst hy;refine⟨hal,fun hk=>?_⟩;rw[Nat.add_zero,e1 at_ (by omega),h2] at hk;cases hk
     | succ i =>
      have:=b i y (by simpa using hy);rw[show at_+(i+1)=at_+1+i by omega];exact this
    ·rename_i h2;rw[if_neg h2] at h;have hk:(Bd.pat s.pl at_).known=true:=by simpa using h2
     simp only at h hz;generalize he:Bd.effect fs (Bd.pat s.pl at_) x=e at *;split at hz
     ·rename_i h3;exact absurd hz h3
     ·rename_i h3;rw[if_neg h3] at h;have hre:Bd.reached fs s.pl (max s.need e.need) (max s.peak e.peak) at_ x e=0:=by omega
      have hd:(x.1=38→(Bd.fn fs x.2).delta=0)∧Bd.agrees s.pl at_ x e.high=true:=by
       unfold Bd.reached at hre;split at hre
       ·simp at hre
       ·rename_i q1;split at hre
        ·simp at hre
        ·split at hre
         ·simp at hre
         ·rename_i q2;exact⟨fun hx=>by
           by_cases hh:(Bd.fn fs x.2).delta=0
           ·exact hh
           ·exact absurd ⟨hx,hh⟩ q1,by simpa using q2⟩
      have hag:∀ t∈Bd.ways at_ x,(Bd.pat s.pl t).known=true→(Bd.pat s.pl t).high=e.high:=fun t ht hk=>by
       have:=List.all_eq_true.1 hd.2 t ht;unfold Bd.agree1 at this;rw[hk] at this
       simpa using this
      obtain⟨m1,m2,m3,m4⟩:=marks (e:=e) (Bd.ways at_ x) s.pl hl (fun t ht=>by obtain⟨m,q,_,q2⟩:=hw t ht;exact⟨m,q,q2⟩);generalize hpl:(Bd.ways at_ x).foldl (Bd.mark e) s.pl=pl' at *;obtain⟨P,⟨e1,e2⟩,b,c1,c2,c3,c4,c5⟩:=ih (at_+1) ⟨pl',max s.need e.need,max s.peak e.peak⟩ c (by simpa using h) m1 (by omega);simp only at e1 e2 c3 c4;have hle:∀ i:Nat,i≤at_→(i:Int) ∉ Bd.ways at_ x:=fun i hi hm=>by obtain⟨m,q,q1,_⟩:=hw i hm;omega
      have hext:Ext at_ s.pl P:=by
       refine⟨fun i hi=>by rw[e1 i (by omega),m2 i (hle i hi)],fun i hi=>?_⟩;by_cases hm:(i:Int)∈Bd.ways at_ x
       ·obtain⟨k1,k2,k3⟩:=m3 i hm;obtain⟨k4,k5,k6⟩:=e2 i k1;exact⟨k4,by rw[k5,k2,hag i hm hi],Int.le_trans (m4 i) k6⟩
       ·have q:=m2 i hm;obtain⟨k4,k5,k6⟩:=e2 i (by rw[q];exact hi);rw[q] at k5 k6;exact⟨k4,k5,k6⟩
      refine⟨P,hext,fun i y hy=>?_,c1,c2,by omega,by omega,c5⟩;cases i with
      | zero =>
       simp at hy;subst hy;rw[Nat.add_zero];refine⟨hal,fun _=>?_⟩;rw[hext.1 at_ (Nat.le_refl _),he];refine⟨by omega,by omega,hd.1,fun t ht=>?_⟩;obtain⟨m,rfl,_,_⟩:=hw t ht;obtain⟨k1,k2,k3⟩:=m3 m ht;obtain⟨k4,k5,k6⟩:=e2 m k1;exact⟨k4,by rw[k5,k2],Int.le_trans k3 k6⟩
      | succ i =>
       have:=b i y (by simpa using hy);rw[show at_+(i+1)=at_+1+i by omega];exact this
theorem rest_bds (n:Nat) (fs:List Bd.Cost) (hf:fs.all Bd.mayBe=true):∀ (r:List (Int×Int)) (at_:Int) (s:Bd.St) (c:Bd.Cost),Bd.rest n fs r at_ s=(c,0,0)→Bd.Ok n s→c.need≤32∧c.peak≤32∧0≤c.steps∧c.steps≤4096∧c.delta≤32:=by
 intro r
 induction r with
 | nil =>
  intro at_ s c h hs;unfold Bd.rest at h;simp at h;have hp:=Bd.pat_bd hs at_;unfold Bd.okP at hp;have h1:=hs.need;have h2:=hs.peak;subst h;exact⟨h1.2,h2.2,hp.2.2.1,hp.2.2.2,hp.2.1⟩
 | cons x r ih =>
  intro at_ s c h hs;unfold Bd.rest at h;split at h
  ·rename_i hne;simp at h;exact absurd h.2.2 hne
  ·rename_i hz;exact ih _ _ c h (Bd.look_ok hf hs (by omega))
theorem code_tab {l:List (Int×Int)} {fs:List Bd.Cost} {c:Bd.Cost} (h:Bd.code l fs=(c,0,0)):∃ P,Tab l.length fs l c P:=by
 unfold Bd.code at h;split at h
 ·rename_i hf;obtain⟨P,⟨e1,e2⟩,b,c1,c2,c3,c4,_⟩:=Sw l.length fs l 0 (Bd.start l.length) c h (by simp[Bd.start]) (by simp);obtain⟨d1,d2,d3,d4,_⟩:=rest_bds l.length fs hf l 0 (Bd.start l.length) c h (Bd.start_ok _);refine⟨P,?_,fun i x hx=>by have:=b i x hx;rwa [Nat.zero_add] at this,c1,c2,c3,c4,d1,d2,d4⟩;have:=e1 0 (Nat.le_refl _);rw[show ((0:Nat):Int)=0 from rfl] at this;rw[this];exact⟨rfl,rfl,rfl⟩
 ·simp at h
def Eqv (s t:St):Prop:=s.ended=false∧∃ X,t = { s with frames:=X }∧settle X=settle s.frames
theorem Eqv.refl {s:St} (h:s.ended=false):Eqv s s:=⟨h,s.frames,rfl,rfl⟩
theorem Eqv.trans {s t u:St} (h:Eqv s t) (k:Eqv t u):Eqv s u:=by
 obtain⟨h1,X,rfl,hX⟩:=h;obtain⟨_,Y,rfl,hY⟩:=k;exact⟨h1,Y,rfl,hY.trans hX⟩
theorem Zan {s t:St} (h:Eqv s t):next t=next s:=by
 obtain⟨h1,X,rfl,hX⟩:=h;unfold next;simp only[h1,hX];rfl
theorem Zm {s t:St} (h:Eqv s t):Mc.step t=Mc.step s:=by unfold Mc.step;rw[Zan h]
def Goes (k:Nat) (s t:St):Prop:=∃ u,Mc.steps k s=(u,true)∧Eqv u t
theorem Gq:∀ (k j:Nat) (s u:St),Mc.steps k s=(u,true)→Mc.steps (k+j) s=Mc.steps j u
 | 0,j,s,u,h=>by
  rw[Mc.steps] at h
  injection h with h1 _
  rw[h1,Nat.zero_add]
 | k+1,j,s,u,h=>by
  rw[show k+1+j=(k+j)+1 by omega];rw[Mc.steps] at h ⊢;rcases hs:Mc.step s with⟨s',b⟩
  rw[hs] at h;cases b with
  | true=>exact Gq k j s' u h
  | false=>simp at h
theorem Goes.trans {k j:Nat} {s t v:St} (h:Goes k s t) (g:Goes j t v):Goes (k+j) s v:=by
 obtain⟨u,h1,h2⟩:=h;obtain⟨x,g1,g2⟩:=g;cases j with
 | zero =>
  rw[Mc.steps] at g1
  injection g1 with e _
  subst e;exact⟨u,h1,h2.trans g2⟩
 | succ j =>
  refine⟨x,?_,g2⟩;rw[Gq k (j+1) s u h1,←g1,Mc.steps,Mc.steps,Zm h2]
theorem Goes.eqv {k:Nat} {s t v:St} (h:Goes k s t) (g:Eqv t v):Goes k s v:=by
 obtain⟨u,h1,h2⟩:=h;exact⟨u,h1,h2.trans g⟩
theorem Goes.one {s t:St} (h:Mc.step s=(t,true)) (he:t.ended=false):Goes 1 s t:=⟨t,by rw[Mc.steps,h];rfl,Eqv.refl he⟩
theorem Yg {p:Prop} [Decidable p] (a b:Nat):((if p then a else b:Nat):Int)=if p then(a:Int) else(b:Int):=by split <;> rfl
theorem Lk (op:Int):(takes op:Int)=Bd.takes op:=by unfold takes Bd.takes;simp only[Yg];rfl
theorem Jo (op:Int):(leaves op:Int)=Bd.leaves op:=by unfold leaves Bd.leaves;simp only[Yg];rfl
theorem Qz {s:St} {l:List (Int×Int)} {at_ m:Nat} {r:List Fm} {x:Int×Int} (hfr:s.frames=⟨l,at_,m⟩::r) (hen:s.ended=false) (hx:l[at_]?=some x)
  (h1:1≤x.1∧x.1≤39) (h2:takes x.1≤s.stack.length) (h3:s.stack.length+leaves x.1≤32+takes x.1) (h4:(x.1=35∨x.1=36)→0≤x.2∧x.2≤(l.length-1-at_:Int)) (h5:(x.1=37∨x.1=38)→0≤x.2∧x.2<s.funcs.length∧r.length+1≤20) :
  Mc.step s=({ deed x.1 x.2 { s with frames:=⟨l,at_+1,m⟩::r,err:=0,ended:=false } with steps:=(deed x.1 x.2 { s with frames:=⟨l,at_+1,m⟩::r,err:=0,ended:=false }).steps+1,peak:=max (deed x.1 x.2 { s with frames:=⟨l,at_+1,m⟩::r,err:=0,ended:=false }).peak (deed x.1 x.2 { s with frames:=⟨l,at_+1,m⟩::r,err:=0,ended:=false }).stack.length },true):=by
 obtain⟨hlt,hxx⟩:=List.getElem?_eq_some_iff.1 hx;have hw:De { s with frames:=⟨l,at_,m⟩::r } x.1 x.2 (l.length-1-at_:Int)=0:=by
  unfold De;rw[if_neg (by omega),if_neg (by simp only;omega),if_neg ?_,if_neg ?_]
  ·rintro ⟨q,q1⟩;have:=h5 q;simp only[List.length_cons] at q1;omega
  ·rintro ⟨q,q1⟩;have:=h4 q;omega
 have hn:next s=({ s with frames:=⟨l,at_,m⟩::r,err:=0,ended:=decide ((0:Int)≠0) },some x):=by
  rw[hen] at hw;unfold next;rw[hen];simp only[Bool.false_eq_true,if_false];rw[hfr,Mt hlt];simp only;rw[show l.getD at_ (0,0)=x by rw[List.getD_eq_getElem?_getD,hx];rfl,hw];simp only[if_true]
 unfold Mc.step;rw[hn];rfl
structure Out (s t:St) (k:Nat) (X:List Fm) (top:Int):Prop where
 fr:t.frames=X
 en:t.ended=false
 er:t.err=0
 fu:t.funcs=s.funcs
 st:t.steps=s.steps+k
 pk:(t.peak:Int)≤max (s.peak:Int) top
def Zfr (F:List (List (Int×Int))) (j:Nat) (c:Bd.Cost):Prop :=
 ∀ (s:St) (m:Nat) (r:List Fm),s.frames=⟨F.getD j [],0,m⟩::r→s.ended=false→s.err=0→s.funcs=F→c.need≤s.stack.length→s.stack.length+c.peak≤32→r.length+1+j≤21 →
  ∃ k t,Goes k s t∧Out s t k (⟨F.getD j [],(F.getD j []).length,m⟩::r) (s.stack.length+c.peak)∧(t.stack.length:Int)=s.stack.length+c.delta∧(k:Int)≤c.steps
theorem Out.trans {s t u:St} {k j:Nat} {X Y:List Fm} {a b c:Int} (h:Out s t k X a) (g:Out t u j Y b) (ha:a≤c) (hb:b≤c):Out s u (k+j) Y c :=
 ⟨g.fr,g.en,g.er,g.fu.trans h.fu,by rw[g.st,h.st];omega,by have h1:=h.pk;have h2:=g.pk;omega⟩
theorem Out.left {s t:St} {k:Nat} {X Y:List Fm} {a:Int} (h:Out s t k X a) (hs:settle Y=settle X):Eqv t { t with frames:=Y }∧Out s { t with frames:=Y } k Y a :=
 ⟨⟨h.en,Y,rfl,by rw[h.fr,hs]⟩,rfl,h.en,h.er,h.fu,h.st,h.pk⟩
theorem Zey {F:List (List (Int×Int))} {j:Nat} {c:Bd.Cost} (hg:Zfr F j c) (hd:c.delta=0) (hs:0≤c.steps):∀ (m:Nat) (s:St) (r:List Fm),s.frames=⟨F.getD j [],0,m⟩::r→s.ended=false→s.err=0→s.funcs=F→c.need≤s.stack.length→s.stack.length+c.peak≤32→r.length+1+j≤21 →
  ∃ k t,Goes k s t∧Out s t k r (s.stack.length+c.peak)∧t.stack.length=s.stack.length∧(k:Int)≤(m+1)*c.steps:=by
 intro m
 induction m with
 | zero =>
  intro s r h1 h2 h3 h4 h5 h6 h7;obtain⟨k,t,g,o,e1,e2⟩:=hg s 0 r h1 h2 h3 h4 h5 h6 h7;obtain⟨a,b⟩:=o.left (Y:=r) settle_end.symm;exact⟨k,_,g.eqv a,b,by simp only;omega,by simpa using e2⟩
 | succ m ih =>
  intro s r h1 h2 h3 h4 h5 h6 h7;obtain⟨k,t,g,o,e1,e2⟩:=hg s (m+1) r h1 h2 h3 h4 h5 h6 h7;have hms:(((m+1:Nat):Int)+1)*c.steps=((m:Int)+1)*c.steps+c.steps:=by rw[Int.add_mul];simp
  by_cases h0:0<(F.getD j []).length
  ·obtain⟨a,b⟩:=o.left (Y:=⟨F.getD j [],0,m⟩::r) (Ht h0).symm;obtain⟨k',t',g',o',e3,e4⟩:=ih { t with frames:=⟨F.getD j [],0,m⟩::r } r rfl o.en o.er (o.fu.trans h4) (by simp only;omega) (by simp only;omega) h7;exact⟨k+k',t',(g.eqv a).trans g',b.trans o' (Int.le_refl _) (by simp only;omega),by rw[e3];simp only;omega,by rw[hms];omega⟩
  ·have he:F.getD j []=[]:=List.length_eq_zero_iff.1 (by omega);rw[he] at o;obtain⟨a,b⟩:=o.left (Y:=r) settle_empty.symm;have:(0:Int)≤((m:Int)+1)*c.steps:=Int.mul_nonneg (by omega) hs;exact⟨k,_,g.eqv a,b,by simp only;omega,by rw[hms];omega⟩
theorem effect_plain {fs:List Bd.Cost} {p:Bd.Place} {x:Int×Int} (h:¬ (x.1=37∨x.1=38)):Bd.effect fs p x=⟨Bd.takes x.1-p.high,p.high-Bd.takes x.1+Bd.leaves x.1,p.high-Bd.takes x.1+Bd.leaves x.1,p.steps+1⟩:=by
 unfold Bd.effect;simp only;rw[if_neg]
 simpa [Bd.calls] using h
theorem effect_call {fs:List Bd.Cost} {p:Bd.Place} {x:Int×Int} (h:x.1=37∨x.1=38):Bd.effect fs p x =
  ⟨max (Bd.takes x.1-p.high) ((Bd.fn fs x.2).need-(p.high-Bd.takes x.1+Bd.leaves x.1)),max (max (p.high-Bd.takes x.1+Bd.leaves x.1) (p.high-Bd.takes x.1+Bd.leaves x.1+(Bd.fn fs x.2).peak)) (p.high-Bd.takes x.1+Bd.leaves x.1+(Bd.fn fs x.2).delta),p.high-Bd.takes x.1+Bd.leaves x.1+(Bd.fn fs x.2).delta,p.steps+1+(if x.1=38 then 16 else 1)*(Bd.fn fs x.2).steps⟩:=by
 unfold Bd.effect;simp only;rw[if_pos]
 simpa [Bd.calls] using h
theorem always_ok {n nf at_:Int} {x:Int×Int} (h:Bd.always n nf at_ x=0):(1≤x.1∧x.1≤39)∧((x.1=35∨x.1=36)→0≤x.2∧x.2≤n-1-at_)∧((x.1=37∨x.1=38)→0≤x.2∧x.2<nf):=by
 unfold Bd.always at h;split at h
 ·simp at h
 ·rename_i h1;split at h
  ·simp at h
  ·rename_i h2;split at h
   ·simp at h
   ·rename_i h3;refine⟨Classical.not_not.1 h1,fun q=>?_,fun q=>?_⟩
    ·have:Bd.jumps x.1=true:=by simpa [Bd.jumps] using q
     exact Classical.not_not.1 fun hh=>h2 ⟨this,hh⟩
    ·have:Bd.calls x.1=true:=by simpa [Bd.calls] using q
     exact Classical.not_not.1 fun hh=>h3 ⟨this,hh⟩
theorem Wc {F:List (List (Int×Int))} {l:List (Int×Int)} {fs:List Bd.Cost} {c:Bd.Cost} {P:List Bd.Place} (htab:Tab l.length fs l c P) (hF:fs.length≤F.length) (hg:∀ j cj,fs[j]?=some cj→Zfr F j cj∧0≤cj.steps∧0≤cj.peak) :
  ∀ (d at_:Nat) (s:St) (m:Nat) (r:List Fm) (h0:Int),at_+d=l.length→s.frames=⟨l,at_,m⟩::r→s.ended=false→s.err=0→s.funcs=F→(Bd.pat P at_).known=true→(s.stack.length:Int)=h0+(Bd.pat P at_).high→c.need≤h0→h0+c.peak≤32→r.length+1+fs.length≤21 →
  ∃ k t,Goes k s t∧Out s t k (⟨l,l.length,m⟩::r) (h0+c.peak)∧(t.stack.length:Int)=h0+c.delta∧(Bd.pat P at_).steps+k≤c.steps:=by
 intro d
 induction d using Nat.strongRecOn with
 | _ d ih =>
 intro at_ s m r h0 hd hfr hen her hfu hk hsl hn hp hr;by_cases hd0:d=0
 ·have hat:at_=l.length:=by omega
  subst hat;refine⟨0,s,⟨s,rfl,Eqv.refl hen⟩,⟨hfr,hen,her,rfl,rfl,by omega⟩,?_,?_⟩
  ·rw[hsl,htab.de]
  ·rw[htab.st];omega
 ·have hlt:at_<l.length:=by omega
  obtain⟨x,hx⟩:∃ x,l[at_]?=some x:=⟨l[at_],List.getElem?_eq_getElem hlt⟩;have hok:=htab.ok at_ x hx;obtain⟨a1,a2,a3⟩:=always_ok hok.al;obtain⟨b1,b2,b3,b4⟩:=hok.kn hk;have ht:=Lk x.1;have hl:=Jo x.1;have hw:=ways_nat hok.al hlt;have c1:takes x.1≤s.stack.length:=by
   by_cases hc:x.1=37∨x.1=38
   ·rw[effect_call hc] at b1;simp only at b1;omega
   ·rw[effect_plain hc] at b1;simp only at b1;omega
  have c2:s.stack.length+leaves x.1≤32+takes x.1:=by
   by_cases hc:x.1=37∨x.1=38
   ·rw[effect_call hc] at b2;simp only at b2;omega
   ·rw[effect_plain hc] at b2;simp only at b2;omega
  have hstep:=Qz hfr hen hx a1 c1 c2 a2 (fun q=>by have:=a3 q;rw[hfu];omega);have hst:=Hp x.1 x.2 { s with frames:=⟨l,at_+1,m⟩::r,err:=0,ended:=false } a1.1 a1.2;have hsm:=Ju x.1 x.2 { s with frames:=⟨l,at_+1,m⟩::r,err:=0,ended:=false };obtain⟨m1,m2,m3,m4,m5⟩:=hsm;simp only at hst m1 m2 m3 m4 m5;generalize hdd:deed x.1 x.2 { s with frames:=⟨l,at_+1,m⟩::r,err:=0,ended:=false } = t at *;have hgo:=Goes.one hstep m2;generalize hs1:({ t with steps:=t.steps+1,peak:=max t.peak t.stack.length }:St)=s1 at *;have e1:s1.frames=t.frames:=by rw[←hs1]
  have e2:s1.stack=t.stack:=by rw[←hs1]
  have e3:s1.ended=false:=by rw[←hs1];exact m2
  have e4:s1.err=0:=by rw[←hs1];exact m3
  have e5:s1.funcs=F:=by rw[←hs1];exact m1.trans hfu
  have e6:s1.steps=s.steps+1:=by rw[←hs1,←m4]
  have e7:s1.peak=max s.peak t.stack.length:=by rw[←hs1,←m5]
  have hO:∀ X,s1.frames=X→Out s s1 1 X (h0+c.peak):=fun X hX=>by
   refine⟨hX,e3,e4,e5.trans hfu.symm,e6,?_⟩;have:(t.stack.length:Int)≤h0+c.peak:=by
    by_cases hc:x.1=37∨x.1=38
    ·rw[effect_call hc] at b2;simp only at b2;omega
    ·rw[effect_plain hc] at b2;simp only at b2;omega
   omega
  have on:∀ (k:Nat) (s2:St) (q:Nat),Goes k s s2→Out s s2 k (⟨l,q,m⟩::r) (h0+c.peak)→(q:Int)∈Bd.ways at_ x→(s2.stack.length:Int)=h0+(Bd.effect fs (Bd.pat P at_) x).high→(Bd.pat P at_).steps+k≤(Bd.effect fs (Bd.pat P at_) x).steps →
    ∃ k t,Goes k s t∧Out s t k (⟨l,l.length,m⟩::r) (h0+c.peak)∧(t.stack.length:Int)=h0+c.delta∧(Bd.pat P at_).steps+k≤c.steps:=by
   intro k s2 q g o hq hs2 hk2;obtain⟨q',hq',q1,q2⟩:=hw q hq;obtain⟨w1,w2,w3⟩:=b4 q hq;obtain⟨k',t',g',o',f1,f2⟩:=ih (l.length-q) (by omega) q s2 m r h0 (by omega) o.fr o.en o.er (o.fu.trans hfu) w1 (by rw[hs2,w2]) hn hp hr;exact⟨k+k',t',g.trans g',o.trans o' (Int.le_refl _) (Int.le_refl _),f1,by omega⟩
  by_cases hc:x.1=37∨x.1=38
  ·obtain⟨q1,q2⟩:=a3 hc;obtain⟨j,hj⟩:∃ j:Nat,x.2=j:=⟨x.2.toNat,by omega⟩;have hjl:j<fs.length:=by omega
   obtain⟨cj,hcj⟩:∃ cj,fs[j]?=some cj:=⟨fs[j],List.getElem?_eq_getElem hjl⟩;obtain⟨hG,hs0,hp0⟩:=hg j cj hcj;have hfn:Bd.fn fs x.2=cj:=by unfold Bd.fn;rw[hj,List.getD_eq_getElem?_getD,Int.toNat_natCast,hcj];rfl
   have hnx:((at_+1:Nat):Int)∈Bd.ways at_ x:=by
    unfold Bd.ways;rw[if_neg (by omega)];simp
   have hef:=effect_call (fs:=fs) (p:=Bd.pat P at_) hc;rw[hfn] at hef;rw[hef] at b1 b2;simp only at b1 b2;rcases hc with hc|hc
   ·have htk:takes x.1=0∧leaves x.1=0:=by rw[hc];exact⟨rfl,rfl⟩
    have hfr1:s1.frames=⟨F.getD j [],0,0⟩::⟨l,at_+1,m⟩::r:=by
     rw[e1,←hdd,hc,hj]
     show (call _ (j:Int) 1).frames=_
     unfold call;rw[if_pos (by omega)];simp only[Int.toNat_natCast,hfu];rfl
    obtain⟨k1,t1,g1,o1,f1,f2⟩:=hG s1 0 _ hfr1 e3 e4 e5 (by rw[e2];omega) (by rw[e2];omega) (by simp only[List.length_cons];omega);obtain⟨l1,l2⟩:=o1.left (Y:=⟨l,at_+1,m⟩::r) settle_end.symm;refine on (1+k1) _ (at_+1) (hgo.trans (g1.eqv l1)) ((hO _ rfl).trans l2 (Int.le_refl _) (by rw[e2];omega)) hnx (by rw[hef];simp only;rw[f1,e2];omega) ?_;rw[hef];simp only;rw[if_neg (by omega)];omega
   ·have htk:takes x.1=1∧leaves x.1=0:=by rw[hc];exact⟨rfl,rfl⟩
    have hdel:cj.delta=0:=by have:=b3 hc;rwa [hfn] at this
    have hfr1:s1.frames=if 0<min (s.stack.getD 0 0) 16 then⟨F.getD j [],0,(min (s.stack.getD 0 0) 16-1).toNat⟩::⟨l,at_+1,m⟩::r else⟨l,at_+1,m⟩::r:=by
     rw[e1,←hdd,hc,hj]
     show (call _ (j:Int) (min (s.stack.getD 0 0) 16)).frames=_
     unfold call;split
     ·simp only[Int.toNat_natCast,hfu]
     ·rfl
    by_cases hm:0<min (s.stack.getD 0 0) 16
    ·rw[if_pos hm] at hfr1;generalize hmm:(min (s.stack.getD 0 0) 16-1).toNat=mm at *;have hmm1:mm≤15:=by omega
     obtain⟨k1,t1,g1,o1,f1,f2⟩:=Zey hG hdel hs0 mm s1 _ hfr1 e3 e4 e5 (by rw[e2];omega) (by rw[e2];omega) (by simp only[List.length_cons];omega);have h16:((mm:Int)+1)*cj.steps≤16*cj.steps:=Int.mul_le_mul_of_nonneg_right (by omega) hs0;refine on (1+k1) _ (at_+1) (hgo.trans g1) ((hO _ rfl).trans o1 (Int.le_refl _) (by rw[e2];omega)) hnx (by rw[hef];simp only;rw[f1,e2];omega) ?_;rw[hef];simp only;rw[if_pos hc];omega
    ·rw[if_neg hm] at hfr1;refine on 1 s1 (at_+1) hgo (hO _ hfr1) hnx (by rw[hef];simp only;rw[e2];omega) ?_;rw[hef];simp only;rw[if_pos hc];omega
  ·have hef:=effect_plain (fs:=fs) (p:=Bd.pat P at_) hc;have hfin:∀ q:Nat,s1.frames=⟨l,q,m⟩::r→(q:Int)∈Bd.ways at_ x→∃ k t,Goes k s t∧Out s t k (⟨l,l.length,m⟩::r) (h0+c.peak)∧(t.stack.length:Int)=h0+c.delta∧(Bd.pat P at_).steps+k≤c.steps:=fun q h1 h2 =>
    on 1 s1 q hgo (hO _ h1) h2 (by rw[hef];simp only;rw[e2];omega) (by rw[hef];simp only;omega)
   by_cases h35:x.1=35
   ·obtain⟨j,hj⟩:∃ j:Nat,x.2=j:=⟨x.2.toNat,by have:=a2 (.inl h35);omega⟩;refine hfin (at_+1+j) ?_ ?_
    ·rw[e1,←hdd,h35,hj];rfl
    ·unfold Bd.ways;rw[h35,hj];simp[Bd.jumps]
   ·by_cases h36:x.1=36
    ·obtain⟨j,hj⟩:∃ j:Nat,x.2=j:=⟨x.2.toNat,by have:=a2 (.inr h36);omega⟩;have hfr1:s1.frames=if s.stack.getD 0 0=0 then⟨l,at_+1+j,m⟩::r else⟨l,at_+1,m⟩::r:=by
      rw[e1,←hdd,h36,hj]
      show (ite (s.stack.getD 0 0=0) _ _:St).frames=_
      split <;> rfl
     by_cases hz:s.stack.getD 0 0=0
     ·rw[if_pos hz] at hfr1;refine hfin _ hfr1 ?_;unfold Bd.ways;rw[h36,hj];simp[Bd.jumps]
     ·rw[if_neg hz] at hfr1;refine hfin _ hfr1 ?_;unfold Bd.ways;rw[h36];simp
    ·refine hfin (at_+1) ?_ ?_
     ·rw[e1,←hdd,Jv x.1 x.2 _ a1.1 (by omega)]
     ·unfold Bd.ways;rw[if_neg h35];simp
theorem Io {l:List (Int×Int)} {fs:List Bd.Cost} {c:Bd.Cost} (h:Bd.code l fs=(c,0,0)):0≤c.steps:=by
 unfold Bd.code at h;split at h
 ·rename_i hf;exact(rest_bds l.length fs hf l 0 (Bd.start l.length) c h (Bd.start_ok _)).2.2.1
 ·simp at h
theorem Yf {F:List (List (Int×Int))} {fs:List Bd.Cost} {l:List (Int×Int)} {c:Bd.Cost} (h:Bd.code l fs=(c,0,0)) (hl:F[fs.length]?=some l) (hg:∀ j cj,fs[j]?=some cj→Zfr F j cj∧0≤cj.steps∧0≤cj.peak):Zfr F fs.length c∧0≤c.steps∧0≤c.peak:=by
 obtain⟨P,hP⟩:=code_tab h;have hlt:fs.length<F.length:=(List.getElem?_eq_some_iff.1 hl).1;have hget:F.getD fs.length []=l:=by rw[List.getD_eq_getElem?_getD,hl];rfl
 refine⟨fun s m r h1 h2 h3 h4 h5 h6 h7=>?_,Io h,hP.k0⟩;rw[hget] at h1 ⊢;obtain⟨p1,p2,p3⟩:=hP.p0;obtain⟨k,t,g,o,e1,e2⟩:=Wc hP (by omega) hg l.length 0 s m r s.stack.length (by omega) h1 h2 h3 h4 p1 (by rw[show ((0:Nat):Int)=0 from rfl,p2];omega) h5 h6 (by omega);rw[show ((0:Nat):Int)=0 from rfl,p3] at e2;exact⟨k,t,g,o,e1,by omega⟩
theorem Np (F:List (List (Int×Int))):∀ (ll:List (List (Int×Int))) (i:Int) (cs:List Bd.Cost),F.drop cs.length=ll→cs.length≤F.length→(∀ j cj,cs[j]?=some cj→Zfr F j cj∧0≤cj.steps∧0≤cj.peak)→(Bd.funcsGo ll i cs).2.2=0 →
  (Bd.funcsGo ll i cs).1.length=F.length∧∀ j cj,(Bd.funcsGo ll i cs).1[j]?=some cj→Zfr F j cj∧0≤cj.steps∧0≤cj.peak:=by
 intro ll
 induction ll with
 | nil =>
  intro i cs h1 hle h2 _;unfold Bd.funcsGo;have:=congrArg List.length h1;simp only[List.length_drop,List.length_nil] at this;exact⟨by simp only;omega,h2⟩
 | cons l r ih =>
  intro i cs h1 hle h2 h3;unfold Bd.funcsGo at h3 ⊢;split at h3
  ·rename_i hne;simp only at h3;exact absurd h3 hne
  ·rename_i hz;rw[if_neg hz];rcases hcode:Bd.code l cs with⟨c,i2,e⟩
   rw[hcode] at hz h3;simp only at hz h3 ⊢;have he:e=0:=by omega
   subst he;have hi:i2=0:=by
    unfold Bd.code at hcode;split at hcode
    ·have key:∀ (n:Nat) (rr:List (Int×Int)) (at_:Int) (s:Bd.St),(Bd.rest n cs rr at_ s).2.2=0→(Bd.rest n cs rr at_ s).2.1=0:=by
      intro n rr
      induction rr with
      | nil=>intro at_ s _;rfl
      | cons y rr ih2 =>
       intro at_ s hh;unfold Bd.rest at hh ⊢;split at hh
       ·rename_i hq;simp only at hh;exact absurd hh hq
       ·rename_i hq;rw[if_neg hq];exact ih2 _ _ hh
     have:=key l.length l 0 (Bd.start l.length) (by rw[hcode]);rw[hcode] at this;exact this
    ·simp at hcode
   subst hi;have hl:F[cs.length]?=some l:=by
    have:(F.drop cs.length)[0]?=some l:=by rw[h1];rfl
    simpa using this
   have hlt:cs.length<F.length:=(List.getElem?_eq_some_iff.1 hl).1;have hG:=Yf hcode hl h2;refine ih (i+1) (cs++[c]) ?_ (by simp;omega) (fun j cj hj=>?_) h3
   ·rw[List.length_append,List.length_singleton,←List.drop_drop,h1];rfl
   ·rw[List.getElem?_append] at hj;split at hj
    ·exact h2 j cj hj
    ·rename_i hjl;have hj0:j-cs.length=0:=by
      have:=(List.getElem?_eq_some_iff.1 hj).1;simp at this;omega
     rw[hj0] at hj;simp at hj;subst hj;have:j=cs.length:=by omega
     subst this;exact hG
theorem Rc {s:St} (h:s.ended=false) (h2:settle s.frames=[]):next s=({ s with frames:=[],ended:=true },none):=by
 unfold next;rw[h,h2];rfl
theorem holds {ll:List (List (Int×Int))} {l:List (Int×Int)} {c:Bd.Cost} (h:Bd.program ll l=(c,0)) {s:St} (hfr:s.frames=[⟨l,0,0⟩]) (hen:s.ended=false) (her:s.err=0) (hfu:s.funcs=ll) (hsk:s.stack=[]) (hst:s.steps=0) (hpk:s.peak=0) :
  (Mc.run c.steps.toNat s).err=0∧((Mc.run c.steps.toNat s).steps:Int)≤c.steps∧((Mc.run c.steps.toNat s).peak:Int)≤c.peak∧((Mc.run c.steps.toNat s).stack.length:Int)=c.delta∧c.steps≤4096∧c.peak≤32∧0≤c.steps:=by
 unfold Bd.program at h;split at h
 ·rename_i hne;simp at h;exact absurd h.2 hne
 ·rename_i hz;have hF:(Bd.funcs ll).1.length=ll.length∧ll.length≤20∧∀ j cj,(Bd.funcs ll).1[j]?=some cj→Zfr ll j cj∧0≤cj.steps∧0≤cj.peak:=by
   unfold Bd.funcs at hz ⊢;split at hz
   ·simp at hz
   ·rename_i h20;rw[if_neg h20];obtain⟨a,b⟩:=Np ll ll 0 [] rfl (by simp) (fun j cj hj=>by simp at hj) (by omega);exact⟨a,by omega,b⟩
  obtain⟨f1,f2,f3⟩:=hF;generalize (Bd.funcs ll).1=cs at *;unfold Bd.whole at h;split at h
  ·rename_i hne;simp at h;exact absurd h.2 hne
  ·rename_i hz2;split at h
   ·simp at h
   ·rename_i hnd;rcases hcode:Bd.code l cs with⟨c',i2,e⟩
    rw[hcode] at hz2 h hnd;simp only at hz2 hnd h;have he:e=0:=by omega
    injection h with hcc _
    subst hcc;subst he;have hcode2:Bd.code l cs=(c',0,0):=by
     unfold Bd.code at hcode ⊢;split at hcode
     ·rename_i hm;rw[if_pos hm];have key:∀ (n:Nat) (rr:List (Int×Int)) (at_:Int) (s:Bd.St),(Bd.rest n cs rr at_ s).2.2=0→(Bd.rest n cs rr at_ s).2.1=0:=by
       intro n rr
       induction rr with
       | nil=>intro at_ s _;rfl
       | cons y rr ih2 =>
        intro at_ s hh;unfold Bd.rest at hh ⊢;split at hh
        ·rename_i hq;simp only at hh;exact absurd hh hq
        ·rename_i hq;rw[if_neg hq];exact ih2 _ _ hh
      have:=key l.length l 0 (Bd.start l.length) (by rw[hcode]);rw[hcode] at this;simp only at this;rw[hcode,this]
     ·simp at hcode
    obtain⟨P,hP⟩:=code_tab hcode2;have h0:=Io hcode2;obtain⟨p1,p2,p3⟩:=hP.p0;obtain⟨k,t,⟨u,g1,g2⟩,o,e1,e2⟩:=Wc hP (by omega) f3 l.length 0 s 0 [] 0 (by omega) hfr hen her hfu p1 (by rw[show ((0:Nat):Int)=0 from rfl,p2,hsk];rfl) (by omega) (by have:=hP.k1;omega) (by simp only[List.length_nil];omega);rw[show ((0:Nat):Int)=0 from rfl,p3] at e2;obtain⟨u1,X,rfl,hX⟩:=g2;have hfr2:=o.fr;simp only at hfr2;subst hfr2;have hset:settle u.frames=[]:=by rw[←hX,settle_end];rfl
    have hnx:=Rc u1 hset;have hrun:Mc.run c'.steps.toNat s = { u with frames:=[],ended:=true } := by
     have hk:k≤c'.steps.toNat:=by omega
     by_cases hkk:k=c'.steps.toNat
     ·unfold Mc.run;rw[←hkk,g1];simp only;rw[hnx]
     ·obtain⟨j,hj⟩:∃ j,c'.steps.toNat=k+(j+1):=⟨c'.steps.toNat-k-1,by omega⟩;unfold Mc.run;rw[hj,Gq k (j+1) s u g1,Mc.steps];have:Mc.step u=({ u with frames:=[],ended:=true },false):=by unfold Mc.step;rw[hnx]
      rw[this]
    rw[hrun];have o1:=o.er;have o2:=o.st;have o3:=o.pk;simp only at o1 o2 o3 e1;have:=hP.k0;exact⟨o1,by simp only;omega,by simp only;omega,by simp only;omega,hP.s1,hP.k1,h0⟩
end Hd
end Go.Proofs.YtnhebmgibiomnaaGreat
namespace Go.Proofs.YtnhebmgibiomnaaGreat
namespace Sm
open Mc
def F (x:Int):Prop:=k32 x=x
theorem Ii (x:Int):F (k32 x):=by unfold F k32;omega
theorem F0:F 0:=rfl
def Gk (s o:St):St := { s with funcs:=o.funcs,frames:=o.frames,stack:=o.stack,steps:=o.steps,peak:=o.peak,ended:=o.ended,err:=o.err }
structure Kp (s:St):Prop where
 stack:∀ x∈s.stack,F x
 cvt:∀ x∈s.cvt,F x
 store:∀ x∈s.store,F x
 cur:∀ p∈s.cur,F p.1∧F p.2
 org:∀ p∈s.org,F p.1∧F p.2
 size:F s.size
theorem Rg {l:List Int} (h:∀ x∈l,F x) (i:Nat):F (l.getD i 0):=by
 rw[List.getD_eq_getElem?_getD];cases e:l[i]? with
 | none=>exact F0
 | some x=>exact h x (List.mem_of_getElem? e)
theorem Xo {l:List (Int×Int)} (h:∀ p∈l,F p.1∧F p.2) (i:Nat):F (l.getD i (0,0)).1∧F (l.getD i (0,0)).2:=by
 rw[List.getD_eq_getElem?_getD];cases e:l[i]? with
 | none=>exact⟨F0,F0⟩
 | some x=>exact h x (List.mem_of_getElem? e)
theorem at_F {l:List Int} (h:∀ x∈l,F x) (i:Int):F (at_ l i):=by
 unfold at_;split
 ·exact Rg h _
 ·exact F0
theorem put_F {l:List Int} (h:∀ x∈l,F x) (i:Int) {v:Int} (hv:F v):∀ x∈Fz l i v,F x:=by
 unfold Fz;split
 ·intro x hx;rcases List.mem_or_eq_of_mem_set hx with hx|rfl
  ·exact h x hx
  ·exact hv
 ·exact h
theorem Yd {l:List (Int×Int)} (h:∀ p∈l,F p.1∧F p.2) (a:Int) (i:Nat):F (Az a (l.getD i (0,0))):=by
 unfold Az;split
 ·exact(Xo h i).2
 ·exact(Xo h i).1
theorem to_F {p:Int×Int} (h:F p.1∧F p.2) (a v:Int):F (to_ a p v).1∧F (to_ a p v).2:=by
 unfold to_;split
 ·exact⟨h.1,Ii _⟩
 ·exact⟨Ii _,h.2⟩
theorem Zbw {l:List (Int×Int)} (h:∀ p∈l,F p.1∧F p.2) (i:Nat) (a v:Int):∀ p∈l.set i (to_ a (l.getD i (0,0)) v),F p.1∧F p.2:=by
 intro p hp;rcases List.mem_or_eq_of_mem_set hp with hp|rfl
 ·exact h p hp
 ·exact to_F (Xo h i) a v
theorem seg_F (org:List (Int×Int)) (ax:Int) (c:Nat×Nat) (a b:Nat):∀ (n p:Nat) (cur:List (Int×Int)),(∀ p∈cur,F p.1∧F p.2)→∀ q∈seg org ax c a b n p cur,F q.1∧F q.2
 | 0,_,_,h=>h
 | n+1,p,cur,h=>by
  unfold seg;split
  ·exact h
  ·exact seg_F org ax c a b n _ _ (Zbw h _ _ _)
theorem Pt {α β:Type} (Q:β→Prop) (f:β→α→β) (hf:∀ b a,Q b→Q (f b a)):∀ (l:List α) (b:β),Q b→Q (l.foldl f b)
 | [],_,h=>h
 | a::l,b,h=>Pt Q f hf l _ (hf b a h)
theorem Ye (org:List (Int×Int)) (touch:List Int) (ax:Int) (cur:List (Int×Int)) (c:Nat×Nat) (h:∀ p∈cur,F p.1∧F p.2):∀ p∈Ft org touch ax cur c,F p.1∧F p.2 :=
 Pt (fun cur:List (Int×Int)=>∀ p∈cur,F p.1∧F p.2) _ (fun _ _ hb=>seg_F _ _ _ _ _ _ _ _ hb) _ _ h
theorem Zfa {s:St} (h:Kp s) (ax:Int):Kp (Ki s ax) :=
 ⟨h.stack,h.cvt,h.store,Pt (fun cur:List (Int×Int)=>∀ p∈cur,F p.1∧F p.2) _ (fun _ _ hb=>Ye _ _ _ _ _ hb) _ _ h.cur,h.org,h.size⟩
theorem Kp.push {s:St} (h:Kp s) (v:Int):Kp (push v s):=⟨fun x hx=>by
 simp only[Mc.push,List.mem_cons] at hx;rcases hx with rfl|hx
 ·exact Ii _
 ·exact h.stack x hx,h.cvt,h.store,h.cur,h.org,h.size⟩
theorem Kp.drop {s:St} (h:Kp s) (n:Nat):Kp { s with stack:=s.stack.drop n } := ⟨fun x hx=>h.stack x (List.mem_of_mem_drop hx),h.cvt,h.store,h.cur,h.org,h.size⟩
theorem Kp.goes {s:St} (h:Kp s) (p:Nat) (a v:Int):Kp (goes s p a v):=⟨h.stack,h.cvt,h.store,Zbw h.cur _ _ _,h.org,h.size⟩
theorem Kp.pass {s:St} (h:Kp s) (n:Int):Kp (pass s n):=by
 unfold Mc.pass;split
 ·exact h
 ·exact⟨h.stack,h.cvt,h.store,h.cur,h.org,h.size⟩
theorem Kp.call {s:St} (h:Kp s) (a n:Int):Kp (call s a n):=by
 unfold Mc.call;split
 ·exact⟨h.stack,h.cvt,h.store,h.cur,h.org,h.size⟩
 ·exact h
theorem Ya {s:St} (h:Kp s) (op a:Int):Kp (deed op a s):=by
 have h1:=h.drop 1;have h2:=h.drop 2;have hx:=Rg h.stack 0;unfold deed;simp only[two,one];split
 all_goals first
  | exact h.push _
  | exact h1.push _
  | exact h2.push _
  | exact h1
  | exact(h1.push _).push _
  | exact(h2.push _).push _
  | exact⟨h.stack,h.cvt,h.store,h.cur,h.org,h.size⟩
  | exact⟨h2.stack,put_F h.cvt _ hx,h.store,h.cur,h.org,h.size⟩
  | exact⟨h2.stack,h.cvt,put_F h.store _ hx,h.cur,h.org,h.size⟩
  | exact Zfa h _
  | exact h.pass _
  | exact h.call _ _
  | exact h1.call _ _
  | exact h
  | (split <;> first|exact h2.goes _ _ _|exact h2|exact h1.pass _|exact h1)
structure Sim (s:St) (q:Sr.St):Prop where
 co:∃ o,q.m=Gk s o
 rl:q.regs.length=64
 stk:∀ i,i<s.stack.length→q.regs.getD (s.stack.length-1-i) 0=s.stack.getD i 0
 kp:Kp s
theorem Sim.drop {s:St} {q:Sr.St} (h:Sim s q) (n:Nat):Sim { s with stack:=s.stack.drop n } q:=by
 obtain⟨o,ho⟩:=h.co;refine⟨⟨o,ho⟩,h.rl,fun i hi=>?_,h.kp.drop n⟩;simp only[List.length_drop] at hi ⊢;have:=h.stk (n+i) (by omega);rw[show s.stack.length-n-1-i=s.stack.length-1-(n+i) by omega,this];simp only[List.getD_eq_getElem?_getD,List.getElem?_drop]
theorem Sim.put {s:St} {q:Sr.St} (h:Sim s q) (v u:Int) {d:Int} (hd:d=(s.stack.length:Int)) (hl:s.stack.length<64) (hu:u=k32 v):Sim { s with stack:=k32 v::s.stack } (Sr.put q d u):=by
 obtain⟨o,ho⟩:=h.co;subst hd hu;refine⟨⟨o,ho⟩,by simp[Sr.put,h.rl],fun i hi=>?_,⟨fun x hx=>?_,h.kp.cvt,h.kp.store,h.kp.cur,h.kp.org,h.kp.size⟩⟩
 ·simp only[List.length_cons] at hi ⊢;simp only[Sr.put,Int.toNat_natCast,List.getD_eq_getElem?_getD,List.getElem?_set];cases i with
  | zero=>simp[h.rl,hl]
  | succ i =>
   rw[if_neg (by omega)];have:=h.stk i (by omega);simp only[List.getD_eq_getElem?_getD] at this;rw[show s.stack.length+1-1-(i+1)=s.stack.length-1-i by omega,this];simp
 ·simp only[List.mem_cons] at hx;rcases hx with rfl|hx
  ·exact Ii _
  ·exact h.kp.stack x hx
theorem Sim.aside {s:St} {q:Sr.St} (h:Sim s q) (v:Int) {d:Int} (hd:(s.stack.length:Int)≤d):Sim s (Sr.put q d v):=by
 obtain⟨o,ho⟩:=h.co;refine⟨⟨o,ho⟩,by simp[Sr.put,h.rl],fun i hi=>?_,h.kp⟩;have:=h.stk i hi;simp only[Sr.put,List.getD_eq_getElem?_getD,List.getElem?_set] at this ⊢;rw[if_neg (by omega),this]
theorem Sim.go {s:St} {q:Sr.St} (h:Sim s q) (pc st:Nat):Sim s { q with pc:=pc,steps:=st } := ⟨h.co,h.rl,h.stk,h.kp⟩
theorem Sim.eqv {s:St} {q:Sr.St} (h:Sim s q) (fu:List (List (Int×Int))) (fr:List Fm) (n p:Nat) (e:Bool) (er:Int):Sim { s with funcs:=fu,frames:=fr,steps:=n,peak:=p,ended:=e,err:=er } q :=
 ⟨h.co,h.rl,h.stk,⟨h.kp.stack,h.kp.cvt,h.kp.store,h.kp.cur,h.kp.org,h.kp.size⟩⟩
theorem Sim.top {s:St} {q:Sr.St} (h:Sim s q) {d:Int} (hd:d=(s.stack.length:Int)-1) (hl:1≤s.stack.length):Sr.get q d=s.stack.getD 0 0:=by
 have:=h.stk 0 (by omega);unfold Sr.get;rw[←this]
 congr 1
 omega
theorem Sim.second {s:St} {q:Sr.St} (h:Sim s q) {d:Int} (hd:d=(s.stack.length:Int)-2) (hl:2≤s.stack.length):Sr.get q d=s.stack.getD 1 0:=by
 have:=h.stk 1 (by omega);unfold Sr.get;rw[←this]
 congr 1
 omega
theorem Vo (m x:Int):F (Bp m x):=Ii _
theorem Zek {s:St} {q:Sr.St} (h:Sim s q) (op a:Int) (ho:(Sr.uses op).1=3) (h40:op≠40) (hl:1≤s.stack.length) (h64:s.stack.length≤32) {d:Int} (hd:d=(s.stack.length:Int)-1):Sim (deed op a s) (Sr.deed ⟨op,d,d,0,0⟩ q):=by
 have hx:=h.top hd hl;have h1:=h.drop 1;have key:∀ v u,u=k32 v→Sim { s with stack:=k32 v::s.stack.drop 1 } (Sr.put q d u):=fun v u hu=>h1.put v u (by simp only[List.length_drop];omega) (by simp only[List.length_drop];omega) hu
 have hco:=h.co;have hkp:=h.kp;generalize hxx:s.stack.getD 0 0=x at *;obtain⟨regs,m,pc,st⟩:=q;obtain⟨o,rfl⟩:∃ o,m=Gk s o:=hco;have hc:op=9∨op=10∨op=13∨op=14∨op=15∨op=19∨op=25∨op=27∨op=29∨op=30:=by
  unfold Sr.uses at ho
  repeat' split at ho
  all_goals first|omega|(exfalso;simp at ho)
 rcases hc with rfl|rfl|rfl|rfl|rfl|rfl|rfl|rfl|rfl|rfl
 all_goals subst hxx
 ·exact key (-(s.stack.getD 0 0)) (k32 (-(Sr.get _ d))) (by rw[hx])
 ·exact key (max (s.stack.getD 0 0) (-(s.stack.getD 0 0))) (k32 (max (Sr.get _ d) (-(Sr.get _ d)))) (by rw[hx])
 ·exact key (Bp 4 (s.stack.getD 0 0)) (k32 (Bp 4 (Sr.get _ d))) (by rw[hx])
 ·exact key (Bp 5 (s.stack.getD 0 0)) (k32 (Bp 5 (Sr.get _ d))) (by rw[hx])
 ·exact key (Bp s.mode (s.stack.getD 0 0)) (Bp s.mode (Sr.get _ d)) (by rw[hx];exact(Vo _ _).symm)
 ·exact key (truth (decide (s.stack.getD 0 0=0))) (k32 (truth (decide (Sr.get _ d=0)))) (by rw[hx])
 ·exact key (at_ s.cvt (s.stack.getD 0 0)) (at_ s.cvt (Sr.get _ d)) (by rw[hx];exact(at_F hkp.cvt _).symm)
 ·exact key (at_ s.store (s.stack.getD 0 0)) (at_ s.store (Sr.get _ d)) (by rw[hx];exact(at_F hkp.store _).symm)
 ·refine key (if has s (s.stack.getD 0 0) then Az s.look (s.cur.getD (s.stack.getD 0 0).toNat (0,0)) else 0) (if has s (Sr.get _ d) then Az s.look (s.cur.getD (Sr.get _ d).toNat (0,0)) else 0) ?_;rw[hx];split
  ·exact(Yd hkp.cur _ _).symm
  ·rfl
 ·refine key (if has s (s.stack.getD 0 0) then Az s.look (s.org.getD (s.stack.getD 0 0).toNat (0,0)) else 0) (if has s (Sr.get _ d) then Az s.look (s.org.getD (Sr.get _ d).toNat (0,0)) else 0) ?_;rw[hx];split
  ·exact(Yd hkp.org _ _).symm
  ·rfl
theorem Zei {s:St} {q:Sr.St} (h:Sim s q) (op a:Int) (ho:(Sr.uses op).1=7) (hl:2≤s.stack.length) (h64:s.stack.length≤32) {d t:Int} (hd:d=(s.stack.length:Int)-2) (ht:t=(s.stack.length:Int)-1):Sim (deed op a s) (Sr.deed ⟨op,d,d,t,0⟩ q):=by
 have hx:=h.top ht (by omega);have hy:=h.second hd hl;have h1:=h.drop 2;have key:∀ v u,u=k32 v→Sim { s with stack:=k32 v::s.stack.drop 2 } (Sr.put q d u):=fun v u hu=>h1.put v u (by simp only[List.length_drop];omega) (by simp only[List.length_drop];omega) hu
 have hc:op=5∨op=6∨op=7∨op=8∨op=11∨op=12∨op=16∨op=17∨op=18∨op=20∨op=21:=by
  unfold Sr.uses at ho
  repeat' split at ho
  all_goals first|omega|(exfalso;simp at ho)
 rcases hc with rfl|rfl|rfl|rfl|rfl|rfl|rfl|rfl|rfl|rfl|rfl
 ·exact key (s.stack.getD 1 0+s.stack.getD 0 0) (k32 (Sr.get q d+Sr.get q t)) (by rw[hx,hy])
 ·exact key (s.stack.getD 1 0-s.stack.getD 0 0) (k32 (Sr.get q d-Sr.get q t)) (by rw[hx,hy])
 ·exact key (k32 (s.stack.getD 1 0*s.stack.getD 0 0 / 64)) (k32 (k32 (Sr.get q d*Sr.get q t / 64))) (by rw[hx,hy])
 ·exact key (k32 (divd (64*s.stack.getD 1 0) (s.stack.getD 0 0))) (k32 (k32 (divd (64*Sr.get q d) (Sr.get q t)))) (by rw[hx,hy])
 ·exact key (min (s.stack.getD 1 0) (s.stack.getD 0 0)) (k32 (min (Sr.get q d) (Sr.get q t))) (by rw[hx,hy])
 ·exact key (max (s.stack.getD 1 0) (s.stack.getD 0 0)) (k32 (max (Sr.get q d) (Sr.get q t))) (by rw[hx,hy])
 ·exact key (truth (decide (s.stack.getD 1 0<s.stack.getD 0 0))) (k32 (truth (decide (Sr.get q d<Sr.get q t)))) (by rw[hx,hy])
 ·exact key (truth (decide (s.stack.getD 1 0≤s.stack.getD 0 0))) (k32 (truth (decide (Sr.get q d≤Sr.get q t)))) (by rw[hx,hy])
 ·exact key (truth (decide (s.stack.getD 1 0=s.stack.getD 0 0))) (k32 (truth (decide (Sr.get q d=Sr.get q t)))) (by rw[hx,hy])
 ·exact key (truth (decide (s.stack.getD 1 0≠0∧s.stack.getD 0 0≠0))) (k32 (truth (decide (Sr.get q d≠0∧Sr.get q t≠0)))) (by rw[hx,hy])
 ·exact key (truth (decide (s.stack.getD 1 0≠0∨s.stack.getD 0 0≠0))) (k32 (truth (decide (Sr.get q d≠0∨Sr.get q t≠0)))) (by rw[hx,hy])
theorem Zej {s:St} {q:Sr.St} (h:Sim s q) (op a:Int) (ho:(Sr.uses op).1=6) (hl:2≤s.stack.length) {d t:Int} (hd:d=(s.stack.length:Int)-2) (ht:t=(s.stack.length:Int)-1):Sim (deed op a s) (Sr.deed ⟨op,0,d,t,0⟩ q):=by
 have hx:=h.top ht (by omega);have hy:=h.second hd hl;have h1:=h.drop 2;have hkp:=Ya h.kp op a;obtain⟨regs,m,pc,st⟩:=q;obtain⟨o,rfl⟩:∃ o,m=Gk s o:=h.co;have hc:op=26∨op=28∨op=31∨op=32∨op=33:=by
  unfold Sr.uses at ho
  repeat' split at ho
  all_goals first|omega|(exfalso;simp at ho)
 rcases hc with rfl|rfl|rfl|rfl|rfl
 ·refine⟨⟨o,?_⟩,h1.rl,h1.stk,hkp⟩
  show ({ Gk s o with cvt:=Fz s.cvt (Sr.get ⟨regs,Gk s o,pc,st⟩ d) (Sr.get ⟨regs,Gk s o,pc,st⟩ t) }:St)=Gk { s with stack:=s.stack.drop 2,cvt:=Fz s.cvt (s.stack.getD 1 0) (s.stack.getD 0 0) } o
  rw[hx,hy];rfl
 ·refine⟨⟨o,?_⟩,h1.rl,h1.stk,hkp⟩
  show ({ Gk s o with store:=Fz s.store (Sr.get ⟨regs,Gk s o,pc,st⟩ d) (Sr.get ⟨regs,Gk s o,pc,st⟩ t) }:St)=Gk { s with stack:=s.stack.drop 2,store:=Fz s.store (s.stack.getD 1 0) (s.stack.getD 0 0) } o
  rw[hx,hy];rfl
 ·have e1:deed 31 a s=if has s (s.stack.getD 1 0) then goes { s with stack:=s.stack.drop 2 } (s.stack.getD 1 0).toNat s.move (Az s.move (s.cur.getD (s.stack.getD 1 0).toNat (0,0))+s.stack.getD 0 0) else { s with stack:=s.stack.drop 2 } := rfl
  have e2:Sr.deed ⟨31,0,d,t,0⟩ ⟨regs,Gk s o,pc,st⟩=if has s (Sr.get ⟨regs,Gk s o,pc,st⟩ d) then⟨regs,goes (Gk s o) (Sr.get ⟨regs,Gk s o,pc,st⟩ d).toNat s.move (Az s.move (s.cur.getD (Sr.get ⟨regs,Gk s o,pc,st⟩ d).toNat (0,0))+Sr.get ⟨regs,Gk s o,pc,st⟩ t),pc,st⟩ else⟨regs,Gk s o,pc,st⟩:=rfl
  rw[e1] at hkp ⊢;rw[e2,hx,hy];split at hkp
  ·rename_i hh;rw[if_pos hh,if_pos hh];exact⟨⟨o,rfl⟩,h1.rl,h1.stk,hkp⟩
  ·rename_i hh;rw[if_neg hh,if_neg hh];exact h1
 ·have e1:deed 32 a s=if s.look=s.move∧has s (s.stack.getD 1 0) then goes { s with stack:=s.stack.drop 2 } (s.stack.getD 1 0).toNat s.move (s.stack.getD 0 0) else { s with stack:=s.stack.drop 2 } := rfl
  have e2:Sr.deed ⟨32,0,d,t,0⟩ ⟨regs,Gk s o,pc,st⟩=if s.look=s.move∧has s (Sr.get ⟨regs,Gk s o,pc,st⟩ d) then⟨regs,goes (Gk s o) (Sr.get ⟨regs,Gk s o,pc,st⟩ d).toNat s.move (Sr.get ⟨regs,Gk s o,pc,st⟩ t),pc,st⟩ else⟨regs,Gk s o,pc,st⟩:=rfl
  rw[e1] at hkp ⊢;rw[e2,hx,hy];split at hkp
  ·rename_i hh;rw[if_pos hh,if_pos hh];exact⟨⟨o,rfl⟩,h1.rl,h1.stk,hkp⟩
  ·rename_i hh;rw[if_neg hh,if_neg hh];exact h1
 ·have e1:deed 33 a s=if s.look=s.move∧has s (s.stack.getD 1 0)∧has s (s.stack.getD 0 0) then goes { s with stack:=s.stack.drop 2 } (s.stack.getD 0 0).toNat s.move (Az s.move (s.cur.getD (s.stack.getD 1 0).toNat (0,0))) else { s with stack:=s.stack.drop 2 } := rfl
  have e2:Sr.deed ⟨33,0,d,t,0⟩ ⟨regs,Gk s o,pc,st⟩=if s.look=s.move∧has s (Sr.get ⟨regs,Gk s o,pc,st⟩ d)∧has s (Sr.get ⟨regs,Gk s o,pc,st⟩ t) then⟨regs,goes (Gk s o) (Sr.get ⟨regs,Gk s o,pc,st⟩ t).toNat s.move (Az s.move (s.cur.getD (Sr.get ⟨regs,Gk s o,pc,st⟩ d).toNat (0,0))),pc,st⟩ else⟨regs,Gk s o,pc,st⟩:=rfl
  rw[e1] at hkp ⊢;rw[e2,hx,hy];split at hkp
  ·rename_i hh;rw[if_pos hh,if_pos hh];exact⟨⟨o,rfl⟩,h1.rl,h1.stk,hkp⟩
  ·rename_i hh;rw[if_neg hh,if_neg hh];exact h1
theorem Zv {s:St} {q:Sr.St} (h:Sim s q) (op a:Int) (ho:op=22∨op=23∨op=24∨op=34):Sim (deed op a s) (Sr.deed ⟨op,0,0,0,a⟩ q):=by
 have hkp:=Ya h.kp op a;obtain⟨regs,m,pc,st⟩:=q;obtain⟨o,rfl⟩:∃ o,m=Gk s o:=h.co;rcases ho with rfl|rfl|rfl|rfl
 all_goals exact⟨⟨o,rfl⟩,h.rl,h.stk,hkp⟩
def RGoes (code:List Sr.Reg) (n:Nat) (q q':Sr.St):Prop:=(∀ m,Sr.runs (n+m) code q=Sr.runs m code q')∧q'.steps=q.steps+n∧q.pc+n≤q'.pc
theorem RGoes.refl (code:List Sr.Reg) (q:Sr.St):RGoes code 0 q q:=⟨fun m=>by rw[Nat.zero_add],rfl,Nat.le_refl _⟩
theorem RGoes.trans {code:List Sr.Reg} {n k:Nat} {q q1 q2:Sr.St} (h:RGoes code n q q1) (g:RGoes code k q1 q2):RGoes code (n+k) q q2 :=
 ⟨fun m=>by rw[Nat.add_assoc,h.1,g.1],by rw[g.2.1,h.2.1,Nat.add_assoc],by have:=h.2.2;have:=g.2.2;omega⟩
def At (code:List Sr.Reg) (pc:Nat) (l:List Sr.Reg):Prop:=∀ i r,l[i]?=some r→code[pc+i]?=some r
theorem At.left {code:List Sr.Reg} {pc:Nat} {a b:List Sr.Reg} (h:At code pc (a++b)):At code pc a:=fun i r hr=>h i r (by rw[List.getElem?_append_left (List.getElem?_eq_some_iff.1 hr).1];exact hr)
theorem At.right {code:List Sr.Reg} {pc:Nat} {a b:List Sr.Reg} (h:At code pc (a++b)):At code (pc+a.length) b:=fun i r hr=>by
 rw[Nat.add_assoc];exact h (a.length+i) r (by rw[List.getElem?_append_right (by omega),Nat.add_sub_cancel_left];exact hr)
theorem At.head {code:List Sr.Reg} {pc:Nat} {r:Sr.Reg} {b:List Sr.Reg} (h:At code pc (r::b)):code[pc]?=some r:=h 0 r rfl
theorem At.tail {code:List Sr.Reg} {pc:Nat} {r:Sr.Reg} {b:List Sr.Reg} (h:At code pc (r::b)):At code (pc+1) b:=At.right (a:=[r]) h
theorem At.flat {code:List Sr.Reg} {g:Nat→List Sr.Reg} {L:Nat} (hL:∀ k,(g k).length=L):∀ (n pc:Nat),At code pc ((List.range n).flatMap g)→∀ k,k<n→At code (pc+k*L) (g k):=by
 intro n
 induction n with
 | zero=>intro pc _ k hk;omega
 | succ n ih =>
  intro pc h k hk;rw[List.range_succ,List.flatMap_append] at h;by_cases hkn:k<n
  ·exact ih pc h.left k hkn
  ·obtain rfl:k=n:=by omega
   have h2:=h.right;have hl:((List.range k).flatMap g).length=k*L:=by
    clear h h2 ih hk hkn
    induction k with
    | zero=>simp
    | succ k ih=>rw[List.range_succ,List.flatMap_append,List.length_append,ih,List.flatMap_singleton,hL,Nat.succ_mul]
   rw[hl,List.flatMap_singleton] at h2;exact h2
theorem Yb {r:Sr.Reg} (h:Sr.leaps r.op=false) (q:Sr.St):(Sr.deed r q).pc=q.pc∧(Sr.deed r q).steps=q.steps:=by
 have n35:¬ r.op.toNat=35:=fun e=>by rw[show r.op=35 by omega] at h;cases h
 have n36:¬ r.op.toNat=36:=fun e=>by rw[show r.op=36 by omega] at h;cases h
 have n41:¬ r.op.toNat=41:=fun e=>by rw[show r.op=41 by omega] at h;cases h
 clear h;unfold Sr.deed;split
 all_goals (simp only[Sr.put,Sr.pass];refine⟨?_,?_⟩ <;> (repeat' split) <;> first|trivial|rfl|omega)
theorem run1 {code:List Sr.Reg} {q:Sr.St} {r:Sr.Reg} (h:code[q.pc]?=some r) (h42:r.op≠42) (m:Nat):Sr.runs (1+m) code q=Sr.runs m code (Sr.deed r { q with pc:=q.pc+1,steps:=q.steps+1 }):=by
 have hg:code.getD q.pc Sr.nop=r:=by rw[List.getD_eq_getElem?_getD,h];rfl
 rw[Nat.add_comm,Sr.runs,hg,if_neg h42];unfold Sr.step;rw[hg]
theorem Xn {code:List Sr.Reg} {q:Sr.St} {r:Sr.Reg} (h:code[q.pc]?=some r) (h42:r.op≠42) (hl:Sr.leaps r.op=false):RGoes code 1 q (Sr.deed r { q with pc:=q.pc+1,steps:=q.steps+1 })∧(Sr.deed r { q with pc:=q.pc+1,steps:=q.steps+1 }).pc=q.pc+1:=by
 obtain⟨h1,h2⟩:=Yb hl { q with pc:=q.pc+1,steps:=q.steps+1 };exact⟨⟨run1 h h42,h2,by rw[h1];exact Nat.le_refl _⟩,h1⟩
def Keep (n:Nat) (q q':Sr.St):Prop:=∀ i,i<n→q'.regs.getD (32+i) 0=q.regs.getD (32+i) 0
theorem Keep.refl (n:Nat) (q:Sr.St):Keep n q q:=fun _ _=>rfl
theorem Keep.trans {n:Nat} {q q1 q2:Sr.St} (h:Keep n q q1) (g:Keep n q1 q2):Keep n q q2:=fun i hi=>(g i hi).trans (h i hi)
theorem deed_regs (r:Sr.Reg) (q:Sr.St):(Sr.deed r q).regs=q.regs∨∃ v,(Sr.deed r q).regs=q.regs.set r.d.toNat v:=by
 unfold Sr.deed;split
 all_goals first
  | exact .inl rfl
  | exact .inr ⟨_,rfl⟩
  | (simp only[Sr.pass];split <;> exact .inl rfl)
  | (simp only;split <;> exact .inl rfl)
theorem Fo {n:Nat} {r:Sr.Reg} (h:r.d.toNat<32∨32+n≤r.d.toNat) (q:Sr.St) (pc st:Nat):Keep n q (Sr.deed r { q with pc:=pc,steps:=st }):=by
 intro i hi;rcases deed_regs r { q with pc:=pc,steps:=st } with e|⟨v,e⟩
 ·rw[e]
 ·rw[e];simp only[List.getD_eq_getElem?_getD,List.getElem?_set];rw[if_neg (by omega)]
end Sm
end Go.Proofs.YtnhebmgibiomnaaGreat
