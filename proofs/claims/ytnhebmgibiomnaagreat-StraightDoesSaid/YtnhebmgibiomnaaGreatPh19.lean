import Derived.Test.YtnhebmgibiomnaaGreatPh0
set_option linter.unusedVariables false
set_option linter.unusedSimpArgs false
set_option maxRecDepth 100000
set_option maxHeartbeats 8000000
namespace Go.Proofs.YtnhebmgibiomnaaGreat
section
namespace Hd
open Mc
theorem Qd {l:List (Int×Int)} {i m:Nat} {r:List Fm} (h:i<l.length):settle (⟨l,i,m⟩::r)=⟨l,i,m⟩::r:=by rw[settle,if_pos h]
theorem da {l:List (Int×Int)} {r:List Fm}:settle (⟨l,l.length,0⟩::r)=settle r:=by rw[settle,if_neg (by simp),if_neg (by simp)]
theorem Km {l:List (Int×Int)} {m:Nat} {r:List Fm} (h:0<l.length):settle (⟨l,l.length,m+1⟩::r)=settle (⟨l,0,m⟩::r):=by
 rw[settle,if_neg (by simp),if_pos ⟨by simp,h⟩,Qd h];rfl
theorem ea {m:Nat}{r:List Fm}:settle (⟨[],0,m⟩::r)=settle r:=by rw[settle,if_neg (by simp),if_neg (by simp)]
def Same (s t:St):Prop:=t.funcs=s.funcs∧t.ai=s.ai∧t.bp=s.bp∧t.steps=s.steps∧t.aL=s.aL
theorem Mo (op a:Int)(s:St):Same s (deed op a s):=by
 unfold deed;simp only;split <;> (first|exact⟨rfl,rfl,rfl,rfl,rfl⟩|skip)
 all_goals (try unfold bv)
 all_goals (try unfold call)
 all_goals (repeat' split)
 all_goals exact⟨rfl,rfl,rfl,rfl,rfl⟩
theorem Mp (op a:Int)(s:St)(y:1≤op)(x:op<35∨op=39):(deed op a s).aD=s.aD:=by
 unfold deed;simp only;split <;> (first|rfl|skip)
 all_goals (try (exfalso;omega))
 all_goals (repeat' split)
 all_goals rfl
theorem Lf {p:Prop}[Decidable p]{s t:St}:(if p then s else t).stack=if p then s.stack else t.stack:=by split <;> rfl
theorem Nt (s:St)(a:Int):(bv s a).stack=s.stack:=by unfold bv;split <;> rfl
theorem Oa (s:St)(a b:Int):(call s a b).stack=s.stack:=by unfold call;split <;> rfl
theorem nE (a:Int)(s:St):(deed 1 a s).stack.length=s.stack.length-0+1:=rfl
theorem mu (a:Int)(s:St):(deed 2 a s).stack.length=s.stack.length-1+0:=by show (s.stack.drop 1).length=_;exact List.length_drop
theorem nV (a:Int)(s:St):(deed 3 a s).stack.length=s.stack.length-1+2:=by show (s.stack.drop 1).length+1+1=_;rw[List.length_drop]
theorem nA (a:Int)(s:St):(deed 4 a s).stack.length=s.stack.length-2+2:=by show (s.stack.drop 2).length+1+1=_;rw[List.length_drop]
theorem my (a:Int)(s:St):(deed 5 a s).stack.length=s.stack.length-2+1:=by show (s.stack.drop 2).length+1=_;rw[List.length_drop]
theorem nO (a:Int)(s:St):(deed 6 a s).stack.length=s.stack.length-2+1:=by show (s.stack.drop 2).length+1=_;rw[List.length_drop]
theorem nX (a:Int)(s:St):(deed 7 a s).stack.length=s.stack.length-2+1:=by show (s.stack.drop 2).length+1=_;rw[List.length_drop]
theorem mq (a:Int)(s:St):(deed 8 a s).stack.length=s.stack.length-2+1:=by show (s.stack.drop 2).length+1=_;rw[List.length_drop]
theorem me (a:Int)(s:St):(deed 9 a s).stack.length=s.stack.length-1+1:=by show (s.stack.drop 1).length+1=_;rw[List.length_drop]
theorem Zjd (a:Int)(s:St):(deed 10 a s).stack.length=s.stack.length-1+1:=by show (s.stack.drop 1).length+1=_;rw[List.length_drop]
theorem Zjc (a:Int)(s:St):(deed 11 a s).stack.length=s.stack.length-2+1:=by show (s.stack.drop 2).length+1=_;rw[List.length_drop]
theorem Zjb (a:Int)(s:St):(deed 12 a s).stack.length=s.stack.length-2+1:=by show (s.stack.drop 2).length+1=_;rw[List.length_drop]
theorem Zja (a:Int)(s:St):(deed 13 a s).stack.length=s.stack.length-1+1:=by show (s.stack.drop 1).length+1=_;rw[List.length_drop]
theorem Ziz (a:Int)(s:St):(deed 14 a s).stack.length=s.stack.length-1+1:=by show (s.stack.drop 1).length+1=_;rw[List.length_drop]
theorem Ziy (a:Int)(s:St):(deed 15 a s).stack.length=s.stack.length-1+1:=by show (s.stack.drop 1).length+1=_;rw[List.length_drop]
theorem Zix (a:Int)(s:St):(deed 16 a s).stack.length=s.stack.length-2+1:=by show (s.stack.drop 2).length+1=_;rw[List.length_drop]
theorem Ziw (a:Int)(s:St):(deed 17 a s).stack.length=s.stack.length-2+1:=by show (s.stack.drop 2).length+1=_;rw[List.length_drop]
theorem Ziv (a:Int)(s:St):(deed 18 a s).stack.length=s.stack.length-2+1:=by show (s.stack.drop 2).length+1=_;rw[List.length_drop]
theorem Ziu (a:Int)(s:St):(deed 19 a s).stack.length=s.stack.length-1+1:=by show (s.stack.drop 1).length+1=_;rw[List.length_drop]
theorem Zit (a:Int)(s:St):(deed 20 a s).stack.length=s.stack.length-2+1:=by show (s.stack.drop 2).length+1=_;rw[List.length_drop]
theorem Zis (a:Int)(s:St):(deed 21 a s).stack.length=s.stack.length-2+1:=by show (s.stack.drop 2).length+1=_;rw[List.length_drop]
theorem Zir (a:Int)(s:St):(deed 22 a s).stack.length=s.stack.length-0+0:=rfl
theorem Ziq (a:Int)(s:St):(deed 23 a s).stack.length=s.stack.length-0+0:=rfl
theorem Zip (a:Int)(s:St):(deed 24 a s).stack.length=s.stack.length-0+0:=rfl
theorem Zio (a:Int)(s:St):(deed 25 a s).stack.length=s.stack.length-1+1:=by show (s.stack.drop 1).length+1=_;rw[List.length_drop]
theorem Zin (a:Int)(s:St):(deed 26 a s).stack.length=s.stack.length-2+0:=by show (s.stack.drop 2).length=_;exact List.length_drop
theorem Zim (a:Int)(s:St):(deed 27 a s).stack.length=s.stack.length-1+1:=by show (s.stack.drop 1).length+1=_;rw[List.length_drop]
theorem Zil (a:Int)(s:St):(deed 28 a s).stack.length=s.stack.length-2+0:=by show (s.stack.drop 2).length=_;exact List.length_drop
theorem Zik (a:Int)(s:St):(deed 29 a s).stack.length=s.stack.length-1+1:=by show (s.stack.drop 1).length+1=_;rw[List.length_drop]
theorem Zij (a:Int)(s:St):(deed 30 a s).stack.length=s.stack.length-1+1:=by show (s.stack.drop 1).length+1=_;rw[List.length_drop]
theorem Zii (a:Int)(s:St):(deed 31 a s).stack.length=s.stack.length-2+0:=by
 show (ite _ _ _:St).stack.length=_
 rw[Lf];split
 ·show (s.stack.drop 2).length=_;exact List.length_drop
 ·show (s.stack.drop 2).length=_;exact List.length_drop
theorem Zih (a:Int)(s:St):(deed 32 a s).stack.length=s.stack.length-2+0:=by
 show (ite _ _ _:St).stack.length=_
 rw[Lf];split
 ·show (s.stack.drop 2).length=_;exact List.length_drop
 ·show (s.stack.drop 2).length=_;exact List.length_drop
theorem Zig (a:Int)(s:St):(deed 33 a s).stack.length=s.stack.length-2+0:=by
 show (ite _ _ _:St).stack.length=_
 rw[Lf];split
 ·show (s.stack.drop 2).length=_;exact List.length_drop
 ·show (s.stack.drop 2).length=_;exact List.length_drop
theorem Zif (a:Int)(s:St):(deed 34 a s).stack.length=s.stack.length-0+0:=rfl
theorem Zie (a:Int)(s:St):(deed 35 a s).stack.length=s.stack.length-0+0:=by show (bv s a).stack.length=_;rw[Nt];rfl
theorem Zid (a:Int)(s:St):(deed 36 a s).stack.length=s.stack.length-1+0:=by
 show (ite _ _ _:St).stack.length=_
 rw[Lf];split
 ·rw[Nt];show (s.stack.drop 1).length=_;exact List.length_drop
 ·show (s.stack.drop 1).length=_;exact List.length_drop
theorem Zic (a:Int)(s:St):(deed 37 a s).stack.length=s.stack.length-0+0:=by show (call s a 1).stack.length=_;rw[Oa];rfl
theorem Zib (a:Int)(s:St):(deed 38 a s).stack.length=s.stack.length-1+0:=by show (call { s with stack:=s.stack.drop 1 } a _).stack.length=_;rw[Oa];show (s.stack.drop 1).length=_;exact List.length_drop
theorem Zia (a:Int)(s:St):(deed 39 a s).stack.length=s.stack.length-0+1:=rfl
theorem Ki (op a:Int)(s:St)(z:1≤op)(y:op≤39):(deed op a s).stack.length=s.stack.length-aO op+aV op:=by
 have x:op=1∨op=2∨op=3∨op=4∨op=5∨op=6∨op=7∨op=8∨op=9∨op=10∨op=11∨op=12∨op=13∨op=14∨op=15∨op=16∨op=17∨op=18∨op=19∨op=20∨op=21∨op=22∨op=23∨op=24∨op=25∨op=26∨op=27∨op=28∨op=29∨op=30∨op=31∨op=32∨op=33∨op=34∨op=35∨op=36∨op=37∨op=38∨op=39:=by omega
 rcases x with rfl|rfl|rfl|rfl|rfl|rfl|rfl|rfl|rfl|rfl|rfl|rfl|rfl|rfl|rfl|rfl|rfl|rfl|rfl|rfl|rfl|rfl|rfl|rfl|rfl|rfl|rfl|rfl|rfl|rfl|rfl|rfl|rfl|rfl|rfl|rfl|rfl|rfl|rfl
 ·exact nE a s
 ·exact mu a s
 ·exact nV a s
 ·exact nA a s
 ·exact my a s
 ·exact nO a s
 ·exact nX a s
 ·exact mq a s
 ·exact me a s
 ·exact Zjd a s
 ·exact Zjc a s
 ·exact Zjb a s
 ·exact Zja a s
 ·exact Ziz a s
 ·exact Ziy a s
 ·exact Zix a s
 ·exact Ziw a s
 ·exact Ziv a s
 ·exact Ziu a s
 ·exact Zit a s
 ·exact Zis a s
 ·exact Zir a s
 ·exact Ziq a s
 ·exact Zip a s
 ·exact Zio a s
 ·exact Zin a s
 ·exact Zim a s
 ·exact Zil a s
 ·exact Zik a s
 ·exact Zij a s
 ·exact Zii a s
 ·exact Zih a s
 ·exact Zig a s
 ·exact Zif a s
 ·exact Zie a s
 ·exact Zid a s
 ·exact Zic a s
 ·exact Zib a s
 ·exact Zia a s
end Hd
namespace Hd
open Mc
def Ext (aK:Nat)(pl P:List Bd.Place):Prop :=
 (∀i:Nat,i≤aK→Bd.bj P i=Bd.bj pl i)∧∀i:Nat,(Bd.bj pl i).aR=true→(Bd.bj P i).aR=true∧(Bd.bj P i).aC=(Bd.bj pl i).aC∧(Bd.bj pl i).steps≤(Bd.bj P i).steps
structure ku (n:Nat) (fs:List Bd.aa) (P:List Bd.Place) (aU aL:Int) (aK:Nat) (x:Int×Int):Prop where
 al:Bd.bn n fs.length aK x=0
 kn:(Bd.bj P aK).aR=true→(Bd.ay fs (Bd.bj P aK) x).aU≤aU∧(Bd.ay fs (Bd.bj P aK) x).aL≤aL∧(x.1=38→(Bd.fn fs x.2).delta=0) ∧
  ∀t∈Bd.ways aK x,(Bd.bj P t).aR=true∧(Bd.bj P t).aC=(Bd.ay fs (Bd.bj P aK) x).aC∧(Bd.ay fs (Bd.bj P aK) x).steps≤(Bd.bj P t).steps
structure jI (n:Nat) (fs:List Bd.aa) (l:List (Int×Int)) (c:Bd.aa) (P:List Bd.Place):Prop where
 p0:(Bd.bj P 0).aR=true∧(Bd.bj P 0).aC=0∧(Bd.bj P 0).steps=0
 ok:∀(i:Nat) x,l[i]?=some x→ku n fs P c.aU c.aL i x
 de:c.delta=(Bd.bj P n).aC
 st:c.steps=(Bd.bj P n).steps
 n0:0≤c.aU
 k0:0≤c.aL
 n1:c.aU≤32
 k1:c.aL≤32
 s1:c.steps≤4096
theorem Sv {pl:List Bd.Place}{t i:Nat}{q:Bd.Place}(h:t<pl.length):Bd.bj (pl.set t q) i=if i=t then q else Bd.bj pl i:=by
 unfold Bd.bj;rw[List.getD_eq_getElem?_getD,List.getD_eq_getElem?_getD,Int.toNat_natCast,List.getElem?_set];by_cases hi:i=t
 ·subst hi;simp[h]
 ·rw[if_neg (fun e=>hi e.symm),if_neg hi]
theorem fm {n v aK:Nat}{x:Int×Int}(h:Bd.bn n v aK x=0)(p:aK<n):∀t∈Bd.ways aK x,∃m:Nat,t=m∧aK<m∧m≤n:=by
 intro t y;unfold Bd.ways at y;simp only[List.mem_append]at y;rcases y with y|y
 ·split at y
  ·simp at y
  ·simp at y;exact⟨aK+1,by omega,by omega,by omega⟩
 ·split at y
  ·rename_i u;simp at y;unfold Bd.bn at h;split at h
   ·simp at h
   ·split at h
    ·simp at h
    ·rename_i k;have:0≤x.2∧x.2≤(n:Int)-1-aK:=by
      by_cases z:0≤x.2∧x.2≤(n:Int)-1-aK
      ·exact z
      ·exact absurd ⟨u,z⟩ k
     exact⟨(aK+1+x.2).toNat,by omega,by omega,by omega⟩
  ·simp at y
theorem marks {n:Nat}{e:Bd.lr}:∀(x:List Int) (pl:List Bd.Place),pl.length=n+1→(∀t∈x,∃m:Nat,t=m∧m≤n) →
  (x.foldl (Bd.mark e) pl).length=n+1 ∧
  (∀i:Nat,(i:Int) ∉ x→Bd.bj (x.foldl (Bd.mark e) pl) i=Bd.bj pl i) ∧
  (∀i:Nat,(i:Int)∈x→(Bd.bj (x.foldl (Bd.mark e) pl) i).aR=true∧(Bd.bj (x.foldl (Bd.mark e) pl) i).aC=e.aC∧e.steps≤(Bd.bj (x.foldl (Bd.mark e) pl) i).steps) ∧
  (∀i:Nat,(Bd.bj pl i).steps≤(Bd.bj (x.foldl (Bd.mark e) pl) i).steps):=by
 intro x
 induction x with
 |nil=>intro pl y _;exact⟨y,fun _ _=>rfl,fun i hi=>by simp at hi,fun _=>Int.le_refl _⟩
 |cons t r ih =>
  intro pl y k;obtain⟨m,rfl,b⟩:=k t (by simp);have u:m<pl.length:=by omega
  have am:Bd.mark e pl (m:Int)=pl.set m ⟨true,e.aC,max (Bd.bj pl m).steps e.steps⟩:=by unfold Bd.mark;rw[Int.toNat_natCast]
  obtain⟨q,v,a,s⟩:=ih (Bd.mark e pl m) (by rw[am];simpa using y) (fun t h=>k t (by simp[h]));simp only[List.foldl_cons];refine⟨q,fun i hi=>?_,fun i hi=>?_,fun i=>?_⟩
  ·simp only[List.mem_cons,not_or]at hi;rw[v i hi.2,am,Sv u,if_neg (by omega)]
  ·by_cases z:(i:Int)∈r
   ·exact a i z
   ·have p:i=m:=by
     simp only[List.mem_cons]at hi;rcases hi with h|h
     ·omega
     ·exact absurd h z
    rw[v i z,am,Sv u,if_pos p];exact⟨rfl,rfl,Int.le_max_right _ _⟩
  ·refine Int.le_trans ?_ (s i);rw[am,Sv u];split
   ·rename_i h;subst h;exact Int.le_max_left _ _
   ·exact Int.le_refl _
theorem Xa (n:Nat)(fs:List Bd.aa):∀(r:List (Int×Int)) (aK:Nat) (s:Bd.St) (c:Bd.aa),Bd.rest n fs r aK s=(c,0,0)→s.pl.length=n+1→aK+r.length=n →
  ∃P,Ext aK s.pl P∧(∀(i:Nat) x,r[i]?=some x→ku n fs P c.aU c.aL (aK+i) x)∧c.delta=(Bd.bj P n).aC∧c.steps=(Bd.bj P n).steps∧s.aU≤c.aU∧s.aL≤c.aL∧c.delta=(Bd.bj P n).aC:=by
 intro r
 induction r with
 |nil =>
  intro aK s c h Z w;unfold Bd.rest at h;simp at h w;subst h;refine⟨s.pl,⟨fun _ _=>rfl,fun i hi=>⟨hi,rfl,Int.le_refl _⟩⟩,fun i x K=>by simp at K,?_,?_,Int.le_refl _,Int.le_refl _,?_⟩ <;> simp only[w]
 |cons x r ih =>
  intro aK s c h Z w;unfold Bd.rest at h;simp at w;split at h
  ·rename_i J;simp at h;exact absurd h.2.2 J
  ·rename_i z;have z:(Bd.look n fs s aK x).1=0:=by omega
   have I:aK<n:=by omega
   unfold Bd.look at h z;split at z
   ·rename_i Q;exact absurd z Q
   ·rename_i Q;rw[if_neg Q]at h;have X:Bd.bn n fs.length aK x=0:=by omega
    have A:=fm X I;split at z
    ·rename_i j;rw[if_pos j]at h;obtain⟨P,⟨o,p⟩,b,Y,H,S,R,V⟩:=ih (aK+1) s c (by simpa using h) Z (by omega);refine⟨P,⟨fun i hi=>o i (by omega),p⟩,fun i y v=>?_,Y,H,S,R,V⟩;cases i with
     |zero =>
      simp at v;subst v;refine⟨X,fun l=>?_⟩;rw[Nat.add_zero,o aK (by omega),j]at l;cases l
     |succ i =>
      have:=b i y (by simpa using v);rw[show aK+(i+1)=aK+1+i by omega];exact this
    ·rename_i j;rw[if_neg j]at h;have l:(Bd.bj s.pl aK).aR=true:=by simpa using j
     simp only at h z;generalize N:Bd.ay fs (Bd.bj s.pl aK) x=e at *;split at z
     ·rename_i U;exact absurd z U
     ·rename_i U;rw[if_neg U]at h;have u:Bd.dS fs s.pl (max s.aU e.aU) (max s.aL e.aL) aK x e=0:=by omega
      have D:(x.1=38→(Bd.fn fs x.2).delta=0)∧Bd.ef s.pl aK x e.aC=true:=by
       unfold Bd.dS at u;split at u
       ·simp at u
       ·rename_i q1;split at u
        ·simp at u
        ·split at u
         ·simp at u
         ·rename_i q2;exact⟨fun K=>by
           by_cases G:(Bd.fn fs x.2).delta=0
           ·exact G
           ·exact absurd ⟨K,G⟩ q1,by simpa using q2⟩
      have M:∀t∈Bd.ways aK x,(Bd.bj s.pl t).aR=true→(Bd.bj s.pl t).aC=e.aC:=fun t a l=>by
       have:=List.all_eq_true.1 D.2 t a;unfold Bd.gM at this;rw[l]at this
       simpa using this
      obtain⟨W,C,B,O⟩:=marks (e:=e) (Bd.ways aK x) s.pl Z (fun t a=>by obtain⟨m,q,_,q2⟩:=A t a;exact⟨m,q,q2⟩);generalize hz:(Bd.ways aK x).foldl (Bd.mark e) s.pl=L at *;obtain⟨P,⟨o,p⟩,b,Y,H,S,R,V⟩:=ih (aK+1) ⟨L,max s.aU e.aU,max s.aL e.aL⟩ c (by simpa using h) W (by omega);simp only at o p S R;have T:∀i:Nat,i≤aK→(i:Int) ∉ Bd.ways aK x:=fun i hi f=>by obtain⟨m,q,q1,_⟩:=A i f;omega
      have E:Ext aK s.pl P:=by
       refine⟨fun i hi=>by rw[o i (by omega),C i (T i hi)],fun i hi=>?_⟩;by_cases f:(i:Int)∈Bd.ways aK x
       ·obtain⟨k1,k2,F⟩:=B i f;obtain⟨g,d,k⟩:=p i k1;exact⟨g,by rw[d,k2,M i f hi],Int.le_trans (O i) k⟩
       ·have q:=C i f;obtain⟨g,d,k⟩:=p i (by rw[q];exact hi);rw[q]at d k;exact⟨g,d,k⟩
      refine⟨P,E,fun i y v=>?_,Y,H,by omega,by omega,V⟩;cases i with
      |zero =>
       simp at v;subst v;rw[Nat.add_zero];refine⟨X,fun _=>?_⟩;rw[E.1 aK (Nat.le_refl _),N];refine⟨by omega,by omega,D.1,fun t a=>?_⟩;obtain⟨m,rfl,_,_⟩:=A t a;obtain⟨k1,k2,F⟩:=B m a;obtain⟨g,d,k⟩:=p m k1;exact⟨g,by rw[d,k2],Int.le_trans F k⟩
      |succ i =>
       have:=b i y (by simpa using v);rw[show aK+(i+1)=aK+1+i by omega];exact this
theorem hH (n:Nat)(fs:List Bd.aa)(u:fs.all Bd.cw=true):∀(r:List (Int×Int)) (aK:Int) (s:Bd.St) (c:Bd.aa),Bd.rest n fs r aK s=(c,0,0)→Bd.Ok n s→c.aU≤32∧c.aL≤32∧0≤c.steps∧c.steps≤4096∧c.delta≤32:=by
 intro r
 induction r with
 |nil =>
  intro aK s c h y;unfold Bd.rest at h;simp at h;have z:=Bd.jM y aK;unfold Bd.kL at z;have p:=y.aU;have v:=y.aL;subst h;exact⟨p.2,v.2,z.2.2.1,z.2.2.2,z.2.1⟩
 |cons x r ih =>
  intro aK s c h y;unfold Bd.rest at h;split at h
  ·rename_i k;simp at h;exact absurd h.2.2 k
  ·rename_i q;exact ih _ _ c h (Bd.jv u y (by omega))
theorem eX {l:List (Int×Int)} {fs:List Bd.aa} {c:Bd.aa} (h:Bd.aA l fs=(c,0,0)):∃P,jI l.length fs l c P:=by
 unfold Bd.aA at h;split at h
 ·rename_i q;obtain⟨P,⟨s,e⟩,b,u,y,r,p,_⟩:=Xa l.length fs l 0 (Bd.start l.length) c h (by simp[Bd.start]) (by simp);obtain⟨k,v,d,a,_⟩:=hH l.length fs q l 0 (Bd.start l.length) c h (Bd.eW _);refine⟨P,?_,fun i x z=>by have:=b i x z;rwa [Nat.zero_add]at this,u,y,r,p,k,v,a⟩;have:=s 0 (Nat.le_refl _);rw[show ((0:Nat):Int)=0 from rfl]at this;rw[this];exact⟨rfl,rfl,rfl⟩
 ·simp at h
def jq (s t:St):Prop:=s.ai=false∧∃X,t = { s with aD:=X }∧settle X=settle s.aD
theorem jq.refl {s:St}(h:s.ai=false):jq s s:=⟨h,s.aD,rfl,rfl⟩
theorem jq.trans {s t u:St}(h:jq s t)(k:jq t u):jq s u:=by
 obtain⟨z,X,rfl,y⟩:=h;obtain⟨_,Y,rfl,x⟩:=k;exact⟨z,Y,rfl,x.trans y⟩
theorem Zfg {s t:St}(h:jq s t):next t=next s:=by
 obtain⟨y,X,rfl,x⟩:=h;unfold next;simp only[y,x];rfl
theorem Zef {s t:St}(h:jq s t):Mc.step t=Mc.step s:=by unfold Mc.step;rw[Zfg h]
def Goes (k:Nat)(s t:St):Prop:=∃u,Mc.steps k s=(u,true)∧jq u t
theorem Jk:∀(k j:Nat)(s u:St),Mc.steps k s=(u,true)→Mc.steps (k+j) s=Mc.steps j u
 |0,j,s,u,h=>by
  rw[Mc.steps]at h
  injection h with y _
  rw[y,Nat.zero_add]
 |k+1,j,s,u,h=>by
  rw[show k+1+j=(k+j)+1 by omega];rw[Mc.steps]at h ⊢;rcases x:Mc.step s with⟨s',b⟩
  rw[x]at h;cases b with
  |true=>exact Jk k j s' u h
  |false=>simp at h
theorem Goes.trans {k j:Nat}{s t v:St}(h:Goes k s t)(g:Goes j t v):Goes (k+j) s v:=by
 obtain⟨u,q,p⟩:=h;obtain⟨x,y,z⟩:=g;cases j with
 |zero =>
  rw[Mc.steps]at y
  injection y with e _
  subst e;exact⟨u,q,p.trans z⟩
 |succ j =>
  refine⟨x,?_,z⟩;rw[Jk k (j+1) s u q,←y,Mc.steps,Mc.steps,Zef p]
theorem Goes.iT {k:Nat}{s t v:St}(h:Goes k s t)(g:jq t v):Goes k s v:=by
 obtain⟨u,y,x⟩:=h;exact⟨u,y,x.trans g⟩
theorem Goes.eB {s t:St} (h:Mc.step s=(t,true)) (x:t.ai=false):Goes 1 s t:=⟨t,by rw[Mc.steps,h];rfl,jq.refl x⟩
theorem Zcv {p:Prop}[Decidable p](a b:Nat):((if p then a else b:Nat):Int)=if p then(a:Int) else(b:Int):=by split <;> rfl
theorem Oj (op:Int):(aO op:Int)=Bd.aO op:=by unfold aO Bd.aO;simp only[Zcv];rfl
theorem Mh (op:Int):(aV op:Int)=Bd.aV op:=by unfold aV Bd.aV;simp only[Zcv];rfl
theorem Va {s:St} {l:List (Int×Int)} {aK m:Nat} {r:List Fm} {x:Int×Int} (a:s.aD=⟨l,aK,m⟩::r) (u:s.ai=false) (y:l[aK]?=some x)
  (e:1≤x.1∧x.1≤39) (c:aO x.1≤s.stack.length) (d:s.stack.length+aV x.1≤32+aO x.1) (v:(x.1=35∨x.1=36)→0≤x.2∧x.2≤(l.length-1-aK:Int)) (p:(x.1=37∨x.1=38)→0≤x.2∧x.2<s.funcs.length∧r.length+1≤20) :
  Mc.step s=({ deed x.1 x.2 { s with aD:=⟨l,aK+1,m⟩::r,bp:=0,ai:=false } with steps:=(deed x.1 x.2 { s with aD:=⟨l,aK+1,m⟩::r,bp:=0,ai:=false }).steps+1,aL:=max (deed x.1 x.2 { s with aD:=⟨l,aK+1,m⟩::r,bp:=0,ai:=false }).aL (deed x.1 x.2 { s with aD:=⟨l,aK+1,m⟩::r,bp:=0,ai:=false }).stack.length },true):=by
 obtain⟨b,f⟩:=List.getElem?_eq_some_iff.1 y;have z:Fj { s with aD:=⟨l,aK,m⟩::r } x.1 x.2 (l.length-1-aK:Int)=0:=by
  unfold Fj;rw[if_neg (by omega),if_neg (by simp only;omega),if_neg ?_,if_neg ?_]
  ·rintro⟨q,q1⟩;have:=p q;simp only[List.length_cons]at q1;omega
  ·rintro⟨q,q1⟩;have:=v q;omega
 have k:next s=({ s with aD:=⟨l,aK,m⟩::r,bp:=0,ai:=decide ((0:Int)≠0) },some x):=by
  rw[u]at z;unfold next;rw[u];simp only[Bool.false_eq_true,if_false];rw[a,Qd b];simp only;rw[show l.getD aK (0,0)=x by rw[List.getD_eq_getElem?_getD,y];rfl,z];simp only[if_true]
 unfold Mc.step;rw[k];rfl
structure fv (s t:St) (k:Nat) (X:List Fm) (bk:Int):Prop where
 fr:t.aD=X
 en:t.ai=false
 er:t.bp=0
 fu:t.funcs=s.funcs
 st:t.steps=s.steps+k
 pk:(t.aL:Int)≤max (s.aL:Int) bk
def mU (F:List (List (Int×Int))) (j:Nat) (c:Bd.aa):Prop :=
 ∀(s:St) (m:Nat) (r:List Fm),s.aD=⟨F.getD j [],0,m⟩::r→s.ai=false→s.bp=0→s.funcs=F→c.aU≤s.stack.length→s.stack.length+c.aL≤32→r.length+1+j≤21 →
  ∃k t,Goes k s t∧fv s t k (⟨F.getD j [],(F.getD j []).length,m⟩::r) (s.stack.length+c.aL)∧(t.stack.length:Int)=s.stack.length+c.delta∧(k:Int)≤c.steps
theorem fv.trans {s t u:St}{k j:Nat}{X Y:List Fm}{a b c:Int}(h:fv s t k X a)(g:fv t u j Y b)(y:a≤c)(x:b≤c):fv s u (k+j) Y c :=
 ⟨g.fr,g.en,g.er,g.fu.trans h.fu,by rw[g.st,h.st];omega,by have v:=h.pk;have z:=g.pk;omega⟩
theorem fv.left {s t:St}{k:Nat}{X Y:List Fm}{a:Int}(h:fv s t k X a)(x:settle Y=settle X):jq t { t with aD:=Y }∧fv s { t with aD:=Y } k Y a :=
 ⟨⟨h.en,Y,rfl,by rw[h.fr,x]⟩,rfl,h.en,h.er,h.fu,h.st,h.pk⟩
theorem Zkc {F:List (List (Int×Int))} {j:Nat} {c:Bd.aa} (d:mU F j c) (U:c.delta=0) (i:0≤c.steps):∀(m:Nat) (s:St) (r:List Fm),s.aD=⟨F.getD j [],0,m⟩::r→s.ai=false→s.bp=0→s.funcs=F→c.aU≤s.stack.length→s.stack.length+c.aL≤32→r.length+1+j≤21 →
  ∃k t,Goes k s t∧fv s t k r (s.stack.length+c.aL)∧t.stack.length=s.stack.length∧(k:Int)≤(m+1)*c.steps:=by
 intro m
 induction m with
 |zero =>
  intro s r q z u x v p y;obtain⟨k,t,g,o,X,f⟩:=d s 0 r q z u x v p y;obtain⟨a,b⟩:=o.left (Y:=r) da.symm;exact⟨k,_,g.iT a,b,by simp only;omega,by simpa using f⟩
 |succ m ih =>
  intro s r q z u x v p y;obtain⟨k,t,g,o,X,f⟩:=d s (m+1) r q z u x v p y;have e:(((m+1:Nat):Int)+1)*c.steps=((m:Int)+1)*c.steps+c.steps:=by rw[Int.add_mul];simp
  by_cases l:0<(F.getD j []).length
  ·obtain⟨a,b⟩:=o.left (Y:=⟨F.getD j [],0,m⟩::r) (Km l).symm;obtain⟨n,t',H,Z,K,V⟩:=ih { t with aD:=⟨F.getD j [],0,m⟩::r } r rfl o.en o.er (o.fu.trans x) (by simp only;omega) (by simp only;omega) y;exact⟨k+n,t',(g.iT a).trans H,b.trans Z (Int.le_refl _) (by simp only;omega),by rw[K];simp only;omega,by rw[e];omega⟩
  ·have w:F.getD j []=[]:=List.length_eq_zero_iff.1 (by omega);rw[w]at o;obtain⟨a,b⟩:=o.left (Y:=r) ea.symm;have:(0:Int)≤((m:Int)+1)*c.steps:=Int.mul_nonneg (by omega) i;exact⟨k,_,g.iT a,b,by simp only;omega,by rw[e];omega⟩
theorem bO {fs:List Bd.aa}{p:Bd.Place}{x:Int×Int} (h:¬ (x.1=37∨x.1=38)):Bd.ay fs p x=⟨Bd.aO x.1-p.aC,p.aC-Bd.aO x.1+Bd.aV x.1,p.aC-Bd.aO x.1+Bd.aV x.1,p.steps+1⟩:=by
 unfold Bd.ay;simp only;rw[if_neg]
 simpa [Bd.ao]using h
theorem bR {fs:List Bd.aa}{p:Bd.Place}{x:Int×Int}(h:x.1=37∨x.1=38):Bd.ay fs p x =
  ⟨max (Bd.aO x.1-p.aC) ((Bd.fn fs x.2).aU-(p.aC-Bd.aO x.1+Bd.aV x.1)),max (max (p.aC-Bd.aO x.1+Bd.aV x.1) (p.aC-Bd.aO x.1+Bd.aV x.1+(Bd.fn fs x.2).aL)) (p.aC-Bd.aO x.1+Bd.aV x.1+(Bd.fn fs x.2).delta),p.aC-Bd.aO x.1+Bd.aV x.1+(Bd.fn fs x.2).delta,p.steps+1+(if x.1=38 then 16 else 1)*(Bd.fn fs x.2).steps⟩:=by
 unfold Bd.ay;simp only;rw[if_pos]
 simpa [Bd.ao]using h
theorem cB {n z aK:Int}{x:Int×Int}(h:Bd.bn n z aK x=0):(1≤x.1∧x.1≤39)∧((x.1=35∨x.1=36)→0≤x.2∧x.2≤n-1-aK)∧((x.1=37∨x.1=38)→0≤x.2∧x.2<z):=by
 unfold Bd.bn at h;split at h
 ·simp at h
 ·rename_i k;split at h
  ·simp at h
  ·rename_i v;split at h
   ·simp at h
   ·rename_i u;refine⟨Classical.not_not.1 k,fun q=>?_,fun q=>?_⟩
    ·have:Bd.az x.1=true:=by simpa [Bd.az]using q
     exact Classical.not_not.1 fun y=>v ⟨this,y⟩
    ·have:Bd.ao x.1=true:=by simpa [Bd.ao]using q
     exact Classical.not_not.1 fun y=>u ⟨this,y⟩
theorem Zam {F:List (List (Int×Int))} {l:List (Int×Int)} {fs:List Bd.aa} {c:Bd.aa} {P:List Bd.Place} (J:jI l.length fs l c P) (hF:fs.length≤F.length) (hg:∀j u,fs[j]?=some u→mU F j u∧0≤u.steps∧0≤u.aL) :
  ∀(d aK:Nat) (s:St) (m:Nat) (r:List Fm) (z:Int),aK+d=l.length→s.aD=⟨l,aK,m⟩::r→s.ai=false→s.bp=0→s.funcs=F→(Bd.bj P aK).aR=true→(s.stack.length:Int)=z+(Bd.bj P aK).aC→c.aU≤z→z+c.aL≤32→r.length+1+fs.length≤21 →
  ∃k t,Goes k s t∧fv s t k (⟨l,l.length,m⟩::r) (z+c.aL)∧(t.stack.length:Int)=z+c.delta∧(Bd.bj P aK).steps+k≤c.steps:=by
 intro d
 induction d using Nat.strongRecOn with
 |_ d ih =>
 intro aK s m r z hd b2 N hO w hk a1 hn hp hr;by_cases a2:d=0
 ·have on:aK=l.length:=by omega
  subst on;refine⟨0,s,⟨s,rfl,jq.refl N⟩,⟨b2,N,hO,rfl,rfl,by omega⟩,?_,?_⟩
  ·rw[a1,J.de]
  ·rw[J.st];omega
 ·have hc:aK<l.length:=by omega
  obtain⟨x,hx⟩:∃x,l[aK]?=some x:=⟨l[aK],List.getElem?_eq_getElem hc⟩;have M:=J.ok aK x hx;obtain⟨Q,W,a3⟩:=cB M.al;obtain⟨n,b,b3,b4⟩:=M.kn hk;have ht:=Oj x.1;have hl:=Mh x.1;have hw:=fm M.al hc;have c1:aO x.1≤s.stack.length:=by
   by_cases y:x.1=37∨x.1=38
   ·rw[bR y]at n;simp only at n;omega
   ·rw[bO y]at n;simp only at n;omega
  have c2:s.stack.length+aV x.1≤32+aO x.1:=by
   by_cases y:x.1=37∨x.1=38
   ·rw[bR y]at b;simp only at b;omega
   ·rw[bO y]at b;simp only at b;omega
  have e5:=Va b2 N hx Q c1 c2 W (fun q=>by have:=a3 q;rw[w];omega);have e1:=Ki x.1 x.2 { s with aD:=⟨l,aK+1,m⟩::r,bp:=0,ai:=false } Q.1 Q.2;have m2:=Mo x.1 x.2 { s with aD:=⟨l,aK+1,m⟩::r,bp:=0,ai:=false };obtain⟨m1,E,m3,m4,m5⟩:=m2;simp only at e1 m1 E m3 m4 m5;generalize H:deed x.1 x.2 { s with aD:=⟨l,aK+1,m⟩::r,bp:=0,ai:=false } = t at *;have B:=Goes.eB e5 E;generalize i:({ t with steps:=t.steps+1,aL:=max t.aL t.stack.length }:St)=s1 at *;have U:s1.aD=t.aD:=by rw[←i]
  have e:s1.stack=t.stack:=by rw[←i]
  have G:s1.ai=false:=by rw[←i];exact E
  have L:s1.bp=0:=by rw[←i];exact m3
  have D:s1.funcs=F:=by rw[←i];exact m1.trans w
  have e6:s1.steps=s.steps+1:=by rw[←i,←m4]
  have e7:s1.aL=max s.aL t.stack.length:=by rw[←i,←m5]
  have V:∀X,s1.aD=X→fv s s1 1 X (z+c.aL):=fun X hX=>by
   refine⟨hX,G,L,D.trans w.symm,e6,?_⟩;have:(t.stack.length:Int)≤z+c.aL:=by
    by_cases y:x.1=37∨x.1=38
    ·rw[bR y]at b;simp only at b;omega
    ·rw[bO y]at b;simp only at b;omega
   omega
  have A:∀(k:Nat) (Z:St) (q:Nat),Goes k s Z→fv s Z k (⟨l,q,m⟩::r) (z+c.aL)→(q:Int)∈Bd.ways aK x→(Z.stack.length:Int)=z+(Bd.ay fs (Bd.bj P aK) x).aC→(Bd.bj P aK).steps+k≤(Bd.ay fs (Bd.bj P aK) x).steps →
    ∃k t,Goes k s t∧fv s t k (⟨l,l.length,m⟩::r) (z+c.aL)∧(t.stack.length:Int)=z+c.delta∧(Bd.bj P aK).steps+k≤c.steps:=by
   intro k Z q g o hq hj mm;obtain⟨q',h3,q1,q2⟩:=hw q hq;obtain⟨w1,w2,w3⟩:=b4 q hq;obtain⟨k',t',g',o',K,f2⟩:=ih (l.length-q) (by omega) q Z m r z (by omega) o.fr o.en o.er (o.fu.trans w) w1 (by rw[hj,w2]) hn hp hr;exact⟨k+k',t',g.trans g',o.trans o' (Int.le_refl _) (Int.le_refl _),K,by omega⟩
  by_cases y:x.1=37∨x.1=38
  ·obtain⟨q1,q2⟩:=a3 y;obtain⟨j,f⟩:∃j:Nat,x.2=j:=⟨x.2.toNat,by omega⟩;have f1:j<fs.length:=by omega
   obtain⟨u,h0⟩:∃u,fs[j]?=some u:=⟨fs[j],List.getElem?_eq_getElem f1⟩;obtain⟨hG,e2,e4⟩:=hg j u h0;have cj:Bd.fn fs x.2=u:=by unfold Bd.fn;rw[f,List.getD_eq_getElem?_getD,Int.toNat_natCast,h0];rfl
   have I:((aK+1:Nat):Int)∈Bd.ways aK x:=by
    unfold Bd.ways;rw[if_neg (by omega)];simp
   have a:=bR (fs:=fs) (p:=Bd.bj P aK) y;rw[cj]at a;rw[a]at n b;simp only at n b;rcases y with y|y
   ·have s2:aO x.1=0∧aV x.1=0:=by rw[y];exact⟨rfl,rfl⟩
    have v:s1.aD=⟨F.getD j [],0,0⟩::⟨l,aK+1,m⟩::r:=by
     rw[U,←H,y,f]
     show (call _ (j:Int) 1).aD=_
     unfold call;rw[if_pos (by omega)];simp only[Int.toNat_natCast,w];rfl
    obtain⟨k1,t1,g1,O,K,f2⟩:=hG s1 0 _ v G L D (by rw[e];omega) (by rw[e];omega) (by simp only[List.length_cons];omega);obtain⟨l1,l2⟩:=O.left (Y:=⟨l,aK+1,m⟩::r) da.symm;refine A (1+k1) _ (aK+1) (B.trans (g1.iT l1)) ((V _ rfl).trans l2 (Int.le_refl _) (by rw[e];omega)) I (by rw[a];simp only;rw[K,e];omega) ?_;rw[a];simp only;rw[if_neg (by omega)];omega
   ·have s2:aO x.1=1∧aV x.1=0:=by rw[y];exact⟨rfl,rfl⟩
    have b1:u.delta=0:=by have:=b3 y;rwa [cj]at this
    have v:s1.aD=if 0<min (s.stack.getD 0 0) 16 then⟨F.getD j [],0,(min (s.stack.getD 0 0) 16-1).toNat⟩::⟨l,aK+1,m⟩::r else⟨l,aK+1,m⟩::r:=by
     rw[U,←H,y,f]
     show (call _ (j:Int) (min (s.stack.getD 0 0) 16)).aD=_
     unfold call;split
     ·simp only[Int.toNat_natCast,w]
     ·rfl
    by_cases hm:0<min (s.stack.getD 0 0) 16
    ·rw[if_pos hm]at v;generalize e3:(min (s.stack.getD 0 0) 16-1).toNat=T at *;have o1:T≤15:=by omega
     obtain⟨k1,t1,g1,O,K,f2⟩:=Zkc hG b1 e2 T s1 _ v G L D (by rw[e];omega) (by rw[e];omega) (by simp only[List.length_cons];omega);have h4:((T:Int)+1)*u.steps≤16*u.steps:=Int.mul_le_mul_of_nonneg_right (by omega) e2;refine A (1+k1) _ (aK+1) (B.trans g1) ((V _ rfl).trans O (Int.le_refl _) (by rw[e];omega)) I (by rw[a];simp only;rw[K,e];omega) ?_;rw[a];simp only;rw[if_pos y];omega
    ·rw[if_neg hm]at v;refine A 1 s1 (aK+1) B (V _ v) I (by rw[a];simp only;rw[e];omega) ?_;rw[a];simp only;rw[if_pos y];omega
  ·have a:=bO (fs:=fs) (p:=Bd.bj P aK) y;have S:∀q:Nat,s1.aD=⟨l,q,m⟩::r→(q:Int)∈Bd.ways aK x→∃k t,Goes k s t∧fv s t k (⟨l,l.length,m⟩::r) (z+c.aL)∧(t.stack.length:Int)=z+c.delta∧(Bd.bj P aK).steps+k≤c.steps:=fun q h1 h2 =>
    A 1 s1 q B (V _ h1) h2 (by rw[a];simp only;rw[e];omega) (by rw[a];simp only;omega)
   by_cases C:x.1=35
   ·obtain⟨j,f⟩:∃j:Nat,x.2=j:=⟨x.2.toNat,by have:=W (.inl C);omega⟩;refine S (aK+1+j) ?_ ?_
    ·rw[U,←H,C,f];rfl
    ·unfold Bd.ways;rw[C,f];simp[Bd.az]
   ·by_cases R:x.1=36
    ·obtain⟨j,f⟩:∃j:Nat,x.2=j:=⟨x.2.toNat,by have:=W (.inr R);omega⟩;have v:s1.aD=if s.stack.getD 0 0=0 then⟨l,aK+1+j,m⟩::r else⟨l,aK+1,m⟩::r:=by
      rw[U,←H,R,f]
      show (ite (s.stack.getD 0 0=0) _ _:St).aD=_
      split <;> rfl
     by_cases hz:s.stack.getD 0 0=0
     ·rw[if_pos hz]at v;refine S _ v ?_;unfold Bd.ways;rw[R,f];simp[Bd.az]
     ·rw[if_neg hz]at v;refine S _ v ?_;unfold Bd.ways;rw[R];simp
    ·refine S (aK+1) ?_ ?_
     ·rw[U,←H,Mp x.1 x.2 _ Q.1 (by omega)]
     ·unfold Bd.ways;rw[if_neg C];simp
theorem Li {l:List (Int×Int)} {fs:List Bd.aa} {c:Bd.aa} (h:Bd.aA l fs=(c,0,0)):0≤c.steps:=by
 unfold Bd.aA at h;split at h
 ·rename_i x;exact(hH l.length fs x l 0 (Bd.start l.length) c h (Bd.eW _)).2.2.1
 ·simp at h
theorem Zct {F:List (List (Int×Int))} {fs:List Bd.aa} {l:List (Int×Int)} {c:Bd.aa} (h:Bd.aA l fs=(c,0,0)) (z:F[fs.length]?=some l) (p:∀j x,fs[j]?=some x→mU F j x∧0≤x.steps∧0≤x.aL):mU F fs.length c∧0≤c.steps∧0≤c.aL:=by
 obtain⟨P,y⟩:=eX h;have X:fs.length<F.length:=(List.getElem?_eq_some_iff.1 z).1;have v:F.getD fs.length []=l:=by rw[List.getD_eq_getElem?_getD,z];rfl
 refine⟨fun s m r u q d a e i K=>?_,Li h,y.k0⟩;rw[v]at u ⊢;obtain⟨H,f,b⟩:=y.p0;obtain⟨k,t,g,o,w,n⟩:=Zam y (by omega) p l.length 0 s m r s.stack.length (by omega) u q d a H (by rw[show ((0:Nat):Int)=0 from rfl,f];omega) e i (by omega);rw[show ((0:Nat):Int)=0 from rfl,b]at n;exact⟨k,t,g,o,w,by omega⟩
theorem Rb (F:List (List (Int×Int))):∀(ll:List (List (Int×Int))) (i:Int) (cs:List Bd.aa),F.drop cs.length=ll→cs.length≤F.length→(∀j x,cs[j]?=some x→mU F j x∧0≤x.steps∧0≤x.aL)→(Bd.funcsGo ll i cs).2.2=0 →
  (Bd.funcsGo ll i cs).1.length=F.length∧∀j x,(Bd.funcsGo ll i cs).1[j]?=some x→mU F j x∧0≤x.steps∧0≤x.aL:=by
 intro ll
 induction ll with
 |nil =>
  intro i cs a H q _;unfold Bd.funcsGo;have:=congrArg List.length a;simp only[List.length_drop,List.length_nil]at this;exact⟨by simp only;omega,q⟩
 |cons l r ih =>
  intro i cs a H q z;unfold Bd.funcsGo at z ⊢;split at z
  ·rename_i o;simp only at z;exact absurd z o
  ·rename_i d;rw[if_neg d];rcases u:Bd.aA l cs with⟨c,g,e⟩
   rw[u]at d z;simp only at d z ⊢;have w:e=0:=by omega
   subst w;have hi:g=0:=by
    unfold Bd.aA at u;split at u
    ·have key:∀(n:Nat) (k:List (Int×Int)) (aK:Int) (s:Bd.St),(Bd.rest n cs k aK s).2.2=0→(Bd.rest n cs k aK s).2.1=0:=by
      intro n k
      induction k with
      |nil=>intro aK s _;rfl
      |cons y k ih2 =>
       intro aK s p;unfold Bd.rest at p ⊢;split at p
       ·rename_i b;simp only at p;exact absurd p b
       ·rename_i b;rw[if_neg b];exact ih2 _ _ p
     have:=key l.length l 0 (Bd.start l.length) (by rw[u]);rw[u]at this;exact this
    ·simp at u
   subst hi;have f:F[cs.length]?=some l:=by
    have:(F.drop cs.length)[0]?=some l:=by rw[a];rfl
    simpa using this
   have X:cs.length<F.length:=(List.getElem?_eq_some_iff.1 f).1;have K:=Zct u f q;refine ih (i+1) (cs++[c]) ?_ (by simp;omega) (fun j x v=>?_) z
   ·rw[List.length_append,List.length_singleton,←List.drop_drop,a];rfl
   ·rw[List.getElem?_append]at v;split at v
    ·exact q j x v
    ·rename_i Y;have m:j-cs.length=0:=by
      have:=(List.getElem?_eq_some_iff.1 v).1;simp at this;omega
     rw[m]at v;simp at v;subst v;have:j=cs.length:=by omega
     subst this;exact K
theorem Ve {s:St}(h:s.ai=false) (x:settle s.aD=[]):next s=({ s with aD:=[],ai:=true },none):=by
 unfold next;rw[h,x];rfl
theorem holds {ll:List (List (Int×Int))} {l:List (Int×Int)} {c:Bd.aa} (h:Bd.program ll l=(c,0)) {s:St} (hP:s.aD=[⟨l,0,0⟩]) (c':s.ai=false) (T:s.bp=0) (F:s.funcs=ll) (A:s.stack=[]) (rr:s.steps=0) (cj:s.aL=0) :
  (Mc.run c.steps.toNat s).bp=0∧((Mc.run c.steps.toNat s).steps:Int)≤c.steps∧((Mc.run c.steps.toNat s).aL:Int)≤c.aL∧((Mc.run c.steps.toNat s).stack.length:Int)=c.delta∧c.steps≤4096∧c.aL≤32∧0≤c.steps:=by
 unfold Bd.program at h;split at h
 ·rename_i f;simp at h;exact absurd h.2 f
 ·rename_i g;have I:(Bd.funcs ll).1.length=ll.length∧ll.length≤20∧∀j p,(Bd.funcs ll).1[j]?=some p→mU ll j p∧0≤p.steps∧0≤p.aL:=by
   unfold Bd.funcs at g ⊢;split at g
   ·simp at g
   ·rename_i R;rw[if_neg R];obtain⟨a,b⟩:=Rb ll ll 0 [] rfl (by simp) (fun j p i=>by simp at i) (by omega);exact⟨a,by omega,b⟩
  obtain⟨f1,f2,B⟩:=I;generalize (Bd.funcs ll).1=cs at *;unfold Bd.fw at h;split at h
  ·rename_i f;simp at h;exact absurd h.2 f
  ·rename_i K;split at h
   ·simp at h
   ·rename_i Z;rcases x:Bd.aA l cs with⟨v,i2,e⟩
    rw[x]at K h Z;simp only at K Z h;have J:e=0:=by omega
    injection h with Q _
    subst Q;subst J;have H:Bd.aA l cs=(v,0,0):=by
     unfold Bd.aA at x ⊢;split at x
     ·rename_i C;rw[if_pos C];have key:∀(n:Nat) (q:List (Int×Int)) (aK:Int) (s:Bd.St),(Bd.rest n cs q aK s).2.2=0→(Bd.rest n cs q aK s).2.1=0:=by
       intro n q
       induction q with
       |nil=>intro aK s _;rfl
       |cons y q ih2 =>
        intro aK s r;unfold Bd.rest at r ⊢;split at r
        ·rename_i d;simp only at r;exact absurd r d
        ·rename_i d;rw[if_neg d];exact ih2 _ _ r
      have:=key l.length l 0 (Bd.start l.length) (by rw[x]);rw[x]at this;simp only at this;rw[x,this]
     ·simp at x
    obtain⟨P,z⟩:=eX H;have S:=Li H;obtain⟨p1,L,G⟩:=z.p0;obtain⟨k,t,⟨u,U,g2⟩,o,e1,e2⟩:=Zam z (by omega) B l.length 0 s 0 [] 0 (by omega) hP c' T F p1 (by rw[show ((0:Nat):Int)=0 from rfl,L,A];rfl) (by omega) (by have:=z.k1;omega) (by simp only[List.length_nil];omega);rw[show ((0:Nat):Int)=0 from rfl,G]at e2;obtain⟨N,X,rfl,E⟩:=g2;have Y:=o.fr;simp only at Y;subst Y;have V:settle u.aD=[]:=by rw[←E,da];rfl
    have w:=Ve N V;have O:Mc.run v.steps.toNat s = { u with aD:=[],ai:=true } := by
     have hk:k≤v.steps.toNat:=by omega
     by_cases W:k=v.steps.toNat
     ·unfold Mc.run;rw[←W,U];simp only;rw[w]
     ·obtain⟨j,i⟩:∃j,v.steps.toNat=k+(j+1):=⟨v.steps.toNat-k-1,by omega⟩;unfold Mc.run;rw[i,Jk k (j+1) s u U,Mc.steps];have:Mc.step u=({ u with aD:=[],ai:=true },false):=by unfold Mc.step;rw[w]
      rw[this]
    rw[O];have m:=o.er;have M:=o.st;have D:=o.pk;simp only at m M D e1;have:=z.k0;exact⟨m,by simp only;omega,by simp only;omega,by simp only;omega,z.s1,z.k1,S⟩
end Hd
namespace Sm
open Mc
def F (x:Int):Prop:=bA x=x
theorem Lc (x:Int):F (bA x):=by unfold F bA;omega
theorem F0:F 0:=rfl
def Jc (s o:St):St := { s with funcs:=o.funcs,aD:=o.aD,stack:=o.stack,steps:=o.steps,aL:=o.aL,ai:=o.ai,bp:=o.bp }
structure Kp (s:St):Prop where
 stack:∀x∈s.stack,F x
 aP:∀x∈s.aP,F x
 store:∀x∈s.store,F x
 aF:∀p∈s.aF,F p.1∧F p.2
 aT:∀p∈s.aT,F p.1∧F p.2
 size:F s.size
theorem Vj {l:List Int}(h:∀x∈l,F x)(i:Nat):F (l.getD i 0):=by
 rw[List.getD_eq_getElem?_getD];cases e:l[i]? with
 |none=>exact F0
 |some x=>exact h x (List.mem_of_getElem? e)
theorem Zcc {l:List (Int×Int)} (h:∀p∈l,F p.1∧F p.2) (i:Nat):F (l.getD i (0,0)).1∧F (l.getD i (0,0)).2:=by
 rw[List.getD_eq_getElem?_getD];cases e:l[i]? with
 |none=>exact⟨F0,F0⟩
 |some x=>exact h x (List.mem_of_getElem? e)
theorem at_F {l:List Int}(h:∀x∈l,F x)(i:Int):F (aK l i):=by
 unfold aK;split
 ·exact Vj h _
 ·exact F0
theorem mQ {l:List Int}(h:∀x∈l,F x)(i:Int){v:Int}(z:F v):∀x∈Ip l i v,F x:=by
 unfold Ip;split
 ·intro x y;rcases List.mem_or_eq_of_mem_set y with y|rfl
  ·exact h x y
  ·exact z
 ·exact h
theorem Zcr {l:List (Int×Int)} (h:∀p∈l,F p.1∧F p.2) (a:Int) (i:Nat):F (Cf a (l.getD i (0,0))):=by
 unfold Cf;split
 ·exact(Zcc h i).2
 ·exact(Zcc h i).1
theorem to_F {p:Int×Int}(h:F p.1∧F p.2)(a v:Int):F (fp a p v).1∧F (fp a p v).2:=by
 unfold fp;split
 ·exact⟨h.1,Lc _⟩
 ·exact⟨Lc _,h.2⟩
theorem Zgx {l:List (Int×Int)} (h:∀p∈l,F p.1∧F p.2) (i:Nat) (a v:Int):∀p∈l.set i (fp a (l.getD i (0,0)) v),F p.1∧F p.2:=by
 intro p x;rcases List.mem_or_eq_of_mem_set x with x|rfl
 ·exact h p x
 ·exact to_F (Zcc h i) a v
theorem mF (aT:List (Int×Int)) (x:Int) (c:Nat×Nat) (a b:Nat):∀(n p:Nat) (aF:List (Int×Int)),(∀p∈aF,F p.1∧F p.2)→∀q∈seg aT x c a b n p aF,F q.1∧F q.2
 |0,_,_,h=>h
 |n+1,p,aF,h=>by
  unfold seg;split
  ·exact h
  ·exact mF aT x c a b n _ _ (Zgx h _ _ _)
theorem Tp {α β:Type}(Q:β→Prop)(f:β→α→β) (x:∀b a,Q b→Q (f b a)):∀(l:List α) (b:β),Q b→Q (l.foldl f b)
 | [],_,h=>h
 |a::l,b,h=>Tp Q f x l _ (x b a h)
theorem Zcs (aT:List (Int×Int)) (aB:List Int) (x:Int) (aF:List (Int×Int)) (c:Nat×Nat) (h:∀p∈aF,F p.1∧F p.2):∀p∈Ij aT aB x aF c,F p.1∧F p.2 :=
 Tp (fun aF:List (Int×Int)=>∀p∈aF,F p.1∧F p.2) _ (fun _ _ y=>mF _ _ _ _ _ _ _ _ y) _ _ h
theorem Zkf {s:St}(h:Kp s)(x:Int):Kp (Nf s x) :=
 ⟨h.stack,h.aP,h.store,Tp (fun aF:List (Int×Int)=>∀p∈aF,F p.1∧F p.2) _ (fun _ _ y=>Zcs _ _ _ _ _ y) _ _ h.aF,h.aT,h.size⟩
theorem Kp.push {s:St}(h:Kp s)(v:Int):Kp (push v s):=⟨fun x y=>by
 simp only[Mc.push,List.mem_cons]at y;rcases y with rfl|y
 ·exact Lc _
 ·exact h.stack x y,h.aP,h.store,h.aF,h.aT,h.size⟩
theorem Kp.drop {s:St}(h:Kp s)(n:Nat):Kp { s with stack:=s.stack.drop n } := ⟨fun x y=>h.stack x (List.mem_of_mem_drop y),h.aP,h.store,h.aF,h.aT,h.size⟩
theorem Kp.bm {s:St}(h:Kp s)(p:Nat)(a v:Int):Kp (bm s p a v):=⟨h.stack,h.aP,h.store,Zgx h.aF _ _ _,h.aT,h.size⟩
theorem Kp.bv {s:St}(h:Kp s)(n:Int):Kp (bv s n):=by
 unfold Mc.bv;split
 ·exact h
 ·exact⟨h.stack,h.aP,h.store,h.aF,h.aT,h.size⟩
theorem Kp.call {s:St}(h:Kp s)(a n:Int):Kp (call s a n):=by
 unfold Mc.call;split
 ·exact⟨h.stack,h.aP,h.store,h.aF,h.aT,h.size⟩
 ·exact h
theorem Zco {s:St}(h:Kp s)(op a:Int):Kp (deed op a s):=by
 have y:=h.drop 1;have x:=h.drop 2;have z:=Vj h.stack 0;unfold deed;simp only[fT,eB];split
 all_goals first
  |exact h.push _
  |exact y.push _
  |exact x.push _
  |exact y
  |exact(y.push _).push _
  |exact(x.push _).push _
  |exact⟨h.stack,h.aP,h.store,h.aF,h.aT,h.size⟩
  |exact⟨x.stack,mQ h.aP _ z,h.store,h.aF,h.aT,h.size⟩
  |exact⟨x.stack,h.aP,mQ h.store _ z,h.aF,h.aT,h.size⟩
  |exact Zkf h _
  |exact h.bv _
  |exact h.call _ _
  |exact y.call _ _
  |exact h
  | (split <;> first|exact x.bm _ _ _|exact x|exact y.bv _|exact y)
structure dh (s:St) (q:Sr.St):Prop where
 co:∃o,q.m=Jc s o
 rl:q.aW.length=64
 jl:∀i,i<s.stack.length→q.aW.getD (s.stack.length-1-i) 0=s.stack.getD i 0
 kp:Kp s
theorem dh.drop {s:St}{q:Sr.St}(h:dh s q)(n:Nat):dh { s with stack:=s.stack.drop n } q:=by
 obtain⟨o,x⟩:=h.co;refine⟨⟨o,x⟩,h.rl,fun i hi=>?_,h.kp.drop n⟩;simp only[List.length_drop]at hi ⊢;have:=h.jl (n+i) (by omega);rw[show s.stack.length-n-1-i=s.stack.length-1-(n+i) by omega,this];simp only[List.getD_eq_getElem?_getD,List.getElem?_drop]
theorem dh.put {s:St}{q:Sr.St}(h:dh s q)(v u:Int){d:Int} (k:d=(s.stack.length:Int)) (r:s.stack.length<64) (p:u=bA v):dh { s with stack:=bA v::s.stack } (Sr.put q d u):=by
 obtain⟨o,z⟩:=h.co;subst k p;refine⟨⟨o,z⟩,by simp[Sr.put,h.rl],fun i hi=>?_,⟨fun x y=>?_,h.kp.aP,h.kp.store,h.kp.aF,h.kp.aT,h.kp.size⟩⟩
 ·simp only[List.length_cons]at hi ⊢;simp only[Sr.put,Int.toNat_natCast,List.getD_eq_getElem?_getD,List.getElem?_set];cases i with
  |zero=>simp[h.rl,r]
  |succ i =>
   rw[if_neg (by omega)];have:=h.jl i (by omega);simp only[List.getD_eq_getElem?_getD]at this;rw[show s.stack.length+1-1-(i+1)=s.stack.length-1-i by omega,this];simp
 ·simp only[List.mem_cons]at y;rcases y with rfl|y
  ·exact Lc _
  ·exact h.kp.stack x y
theorem dh.mK {s:St}{q:Sr.St}(h:dh s q)(v:Int){d:Int} (y:(s.stack.length:Int)≤d):dh s (Sr.put q d v):=by
 obtain⟨o,x⟩:=h.co;refine⟨⟨o,x⟩,by simp[Sr.put,h.rl],fun i hi=>?_,h.kp⟩;have:=h.jl i hi;simp only[Sr.put,List.getD_eq_getElem?_getD,List.getElem?_set]at this ⊢;rw[if_neg (by omega),this]
theorem dh.go {s:St}{q:Sr.St}(h:dh s q)(pc st:Nat):dh s { q with pc:=pc,steps:=st } := ⟨h.co,h.rl,h.jl,h.kp⟩
theorem dh.iT {s:St}{q:Sr.St}(h:dh s q) (fu:List (List (Int×Int))) (fr:List Fm) (n p:Nat) (e:Bool) (er:Int):dh { s with funcs:=fu,aD:=fr,steps:=n,aL:=p,ai:=e,bp:=er } q :=
 ⟨h.co,h.rl,h.jl,⟨h.kp.stack,h.kp.aP,h.kp.store,h.kp.aF,h.kp.aT,h.kp.size⟩⟩
theorem dh.bk {s:St}{q:Sr.St}(h:dh s q){d:Int} (x:d=(s.stack.length:Int)-1) (y:1≤s.stack.length):Sr.get q d=s.stack.getD 0 0:=by
 have:=h.jl 0 (by omega);unfold Sr.get;rw[←this]
 congr 1
 omega
theorem dh.cL {s:St}{q:Sr.St}(h:dh s q){d:Int} (x:d=(s.stack.length:Int)-2) (y:2≤s.stack.length):Sr.get q d=s.stack.getD 1 0:=by
 have:=h.jl 1 (by omega);unfold Sr.get;rw[←this]
 congr 1
 omega
theorem Zx (m x:Int):F (Cx m x):=Lc _
theorem Zjm {s:St}{q:Sr.St}(h:dh s q)(op a:Int) (k:(Sr.cP op).1=3) (j:op≠40) (b:1≤s.stack.length) (i:s.stack.length≤32) {d:Int} (e:d=(s.stack.length:Int)-1):dh (deed op a s) (Sr.deed ⟨op,d,d,0,0⟩ q):=by
 have y:=h.bk e b;have f:=h.drop 1;have key:∀v u,u=bA v→dh { s with stack:=bA v::s.stack.drop 1 } (Sr.put q d u):=fun v u p=>f.put v u (by simp only[List.length_drop];omega) (by simp only[List.length_drop];omega) p
 have c:=h.co;have z:=h.kp;generalize g:s.stack.getD 0 0=x at *;obtain⟨aW,m,pc,st⟩:=q;obtain⟨o,rfl⟩:∃o,m=Jc s o:=c;have r:op=9∨op=10∨op=13∨op=14∨op=15∨op=19∨op=25∨op=27∨op=29∨op=30:=by
  unfold Sr.cP at k
  repeat' split at k
  all_goals first|omega|(exfalso;simp at k)
 rcases r with rfl|rfl|rfl|rfl|rfl|rfl|rfl|rfl|rfl|rfl
 all_goals subst g
 ·exact key (-(s.stack.getD 0 0)) (bA (-(Sr.get _ d))) (by rw[y])
 ·exact key (max (s.stack.getD 0 0) (-(s.stack.getD 0 0))) (bA (max (Sr.get _ d) (-(Sr.get _ d)))) (by rw[y])
 ·exact key (Cx 4 (s.stack.getD 0 0)) (bA (Cx 4 (Sr.get _ d))) (by rw[y])
 ·exact key (Cx 5 (s.stack.getD 0 0)) (bA (Cx 5 (Sr.get _ d))) (by rw[y])
 ·exact key (Cx s.bG (s.stack.getD 0 0)) (Cx s.bG (Sr.get _ d)) (by rw[y];exact(Zx _ _).symm)
 ·exact key (bC (decide (s.stack.getD 0 0=0))) (bA (bC (decide (Sr.get _ d=0)))) (by rw[y])
 ·exact key (aK s.aP (s.stack.getD 0 0)) (aK s.aP (Sr.get _ d)) (by rw[y];exact(at_F z.aP _).symm)
 ·exact key (aK s.store (s.stack.getD 0 0)) (aK s.store (Sr.get _ d)) (by rw[y];exact(at_F z.store _).symm)
 ·refine key (if cJ s (s.stack.getD 0 0) then Cf s.look (s.aF.getD (s.stack.getD 0 0).toNat (0,0)) else 0) (if cJ s (Sr.get _ d) then Cf s.look (s.aF.getD (Sr.get _ d).toNat (0,0)) else 0) ?_;rw[y];split
  ·exact(Zcr z.aF _ _).symm
  ·rfl
 ·refine key (if cJ s (s.stack.getD 0 0) then Cf s.look (s.aT.getD (s.stack.getD 0 0).toNat (0,0)) else 0) (if cJ s (Sr.get _ d) then Cf s.look (s.aT.getD (Sr.get _ d).toNat (0,0)) else 0) ?_;rw[y];split
  ·exact(Zcr z.aT _ _).symm
  ·rfl
theorem Zjk {s:St}{q:Sr.St}(h:dh s q)(op a:Int) (z:(Sr.cP op).1=7) (r:2≤s.stack.length) (f:s.stack.length≤32) {d t:Int} (b:d=(s.stack.length:Int)-2) (e:t=(s.stack.length:Int)-1):dh (deed op a s) (Sr.deed ⟨op,d,d,t,0⟩ q):=by
 have x:=h.bk e (by omega);have y:=h.cL b r;have c:=h.drop 2;have key:∀v u,u=bA v→dh { s with stack:=bA v::s.stack.drop 2 } (Sr.put q d u):=fun v u k=>c.put v u (by simp only[List.length_drop];omega) (by simp only[List.length_drop];omega) k
 have p:op=5∨op=6∨op=7∨op=8∨op=11∨op=12∨op=16∨op=17∨op=18∨op=20∨op=21:=by
  unfold Sr.cP at z
  repeat' split at z
  all_goals first|omega|(exfalso;simp at z)
 rcases p with rfl|rfl|rfl|rfl|rfl|rfl|rfl|rfl|rfl|rfl|rfl
 ·exact key (s.stack.getD 1 0+s.stack.getD 0 0) (bA (Sr.get q d+Sr.get q t)) (by rw[x,y])
 ·exact key (s.stack.getD 1 0-s.stack.getD 0 0) (bA (Sr.get q d-Sr.get q t)) (by rw[x,y])
 ·exact key (bA (s.stack.getD 1 0*s.stack.getD 0 0 / 64)) (bA (bA (Sr.get q d*Sr.get q t / 64))) (by rw[x,y])
 ·exact key (bA (eT (64*s.stack.getD 1 0) (s.stack.getD 0 0))) (bA (bA (eT (64*Sr.get q d) (Sr.get q t)))) (by rw[x,y])
 ·exact key (min (s.stack.getD 1 0) (s.stack.getD 0 0)) (bA (min (Sr.get q d) (Sr.get q t))) (by rw[x,y])
 ·exact key (max (s.stack.getD 1 0) (s.stack.getD 0 0)) (bA (max (Sr.get q d) (Sr.get q t))) (by rw[x,y])
 ·exact key (bC (decide (s.stack.getD 1 0<s.stack.getD 0 0))) (bA (bC (decide (Sr.get q d<Sr.get q t)))) (by rw[x,y])
 ·exact key (bC (decide (s.stack.getD 1 0≤s.stack.getD 0 0))) (bA (bC (decide (Sr.get q d≤Sr.get q t)))) (by rw[x,y])
 ·exact key (bC (decide (s.stack.getD 1 0=s.stack.getD 0 0))) (bA (bC (decide (Sr.get q d=Sr.get q t)))) (by rw[x,y])
 ·exact key (bC (decide (s.stack.getD 1 0≠0∧s.stack.getD 0 0≠0))) (bA (bC (decide (Sr.get q d≠0∧Sr.get q t≠0)))) (by rw[x,y])
 ·exact key (bC (decide (s.stack.getD 1 0≠0∨s.stack.getD 0 0≠0))) (bA (bC (decide (Sr.get q d≠0∨Sr.get q t≠0)))) (by rw[x,y])
theorem Zjl {s:St}{q:Sr.St}(h:dh s q)(op a:Int) (r:(Sr.cP op).1=6) (c:2≤s.stack.length) {d t:Int} (e:d=(s.stack.length:Int)-2) (f:t=(s.stack.length:Int)-1):dh (deed op a s) (Sr.deed ⟨op,0,d,t,0⟩ q):=by
 have u:=h.bk f (by omega);have v:=h.cL e c;have y:=h.drop 2;have z:=Zco h.kp op a;obtain⟨aW,m,pc,st⟩:=q;obtain⟨o,rfl⟩:∃o,m=Jc s o:=h.co;have b:op=26∨op=28∨op=31∨op=32∨op=33:=by
  unfold Sr.cP at r
  repeat' split at r
  all_goals first|omega|(exfalso;simp at r)
 rcases b with rfl|rfl|rfl|rfl|rfl
 ·refine⟨⟨o,?_⟩,y.rl,y.jl,z⟩
  show ({ Jc s o with aP:=Ip s.aP (Sr.get ⟨aW,Jc s o,pc,st⟩ d) (Sr.get ⟨aW,Jc s o,pc,st⟩ t) }:St)=Jc { s with stack:=s.stack.drop 2,aP:=Ip s.aP (s.stack.getD 1 0) (s.stack.getD 0 0) } o
  rw[u,v];rfl
 ·refine⟨⟨o,?_⟩,y.rl,y.jl,z⟩
  show ({ Jc s o with store:=Ip s.store (Sr.get ⟨aW,Jc s o,pc,st⟩ d) (Sr.get ⟨aW,Jc s o,pc,st⟩ t) }:St)=Jc { s with stack:=s.stack.drop 2,store:=Ip s.store (s.stack.getD 1 0) (s.stack.getD 0 0) } o
  rw[u,v];rfl
 ·have p:deed 31 a s=if cJ s (s.stack.getD 1 0) then bm { s with stack:=s.stack.drop 2 } (s.stack.getD 1 0).toNat s.move (Cf s.move (s.aF.getD (s.stack.getD 1 0).toNat (0,0))+s.stack.getD 0 0) else { s with stack:=s.stack.drop 2 } := rfl
  have k:Sr.deed ⟨31,0,d,t,0⟩ ⟨aW,Jc s o,pc,st⟩=if cJ s (Sr.get ⟨aW,Jc s o,pc,st⟩ d) then⟨aW,bm (Jc s o) (Sr.get ⟨aW,Jc s o,pc,st⟩ d).toNat s.move (Cf s.move (s.aF.getD (Sr.get ⟨aW,Jc s o,pc,st⟩ d).toNat (0,0))+Sr.get ⟨aW,Jc s o,pc,st⟩ t),pc,st⟩ else⟨aW,Jc s o,pc,st⟩:=rfl
  rw[p]at z ⊢;rw[k,u,v];split at z
  ·rename_i x;rw[if_pos x,if_pos x];exact⟨⟨o,rfl⟩,y.rl,y.jl,z⟩
  ·rename_i x;rw[if_neg x,if_neg x];exact y
 ·have p:deed 32 a s=if s.look=s.move∧cJ s (s.stack.getD 1 0) then bm { s with stack:=s.stack.drop 2 } (s.stack.getD 1 0).toNat s.move (s.stack.getD 0 0) else { s with stack:=s.stack.drop 2 } := rfl
  have k:Sr.deed ⟨32,0,d,t,0⟩ ⟨aW,Jc s o,pc,st⟩=if s.look=s.move∧cJ s (Sr.get ⟨aW,Jc s o,pc,st⟩ d) then⟨aW,bm (Jc s o) (Sr.get ⟨aW,Jc s o,pc,st⟩ d).toNat s.move (Sr.get ⟨aW,Jc s o,pc,st⟩ t),pc,st⟩ else⟨aW,Jc s o,pc,st⟩:=rfl
  rw[p]at z ⊢;rw[k,u,v];split at z
  ·rename_i x;rw[if_pos x,if_pos x];exact⟨⟨o,rfl⟩,y.rl,y.jl,z⟩
  ·rename_i x;rw[if_neg x,if_neg x];exact y
 ·have p:deed 33 a s=if s.look=s.move∧cJ s (s.stack.getD 1 0)∧cJ s (s.stack.getD 0 0) then bm { s with stack:=s.stack.drop 2 } (s.stack.getD 0 0).toNat s.move (Cf s.move (s.aF.getD (s.stack.getD 1 0).toNat (0,0))) else { s with stack:=s.stack.drop 2 } := rfl
  have k:Sr.deed ⟨33,0,d,t,0⟩ ⟨aW,Jc s o,pc,st⟩=if s.look=s.move∧cJ s (Sr.get ⟨aW,Jc s o,pc,st⟩ d)∧cJ s (Sr.get ⟨aW,Jc s o,pc,st⟩ t) then⟨aW,bm (Jc s o) (Sr.get ⟨aW,Jc s o,pc,st⟩ t).toNat s.move (Cf s.move (s.aF.getD (Sr.get ⟨aW,Jc s o,pc,st⟩ d).toNat (0,0))),pc,st⟩ else⟨aW,Jc s o,pc,st⟩:=rfl
  rw[p]at z ⊢;rw[k,u,v];split at z
  ·rename_i x;rw[if_pos x,if_pos x];exact⟨⟨o,rfl⟩,y.rl,y.jl,z⟩
  ·rename_i x;rw[if_neg x,if_neg x];exact y
theorem Zen {s:St}{q:Sr.St}(h:dh s q)(op a:Int)(x:op=22∨op=23∨op=24∨op=34):dh (deed op a s) (Sr.deed ⟨op,0,0,0,a⟩ q):=by
 have y:=Zco h.kp op a;obtain⟨aW,m,pc,st⟩:=q;obtain⟨o,rfl⟩:∃o,m=Jc s o:=h.co;rcases x with rfl|rfl|rfl|rfl
 all_goals exact⟨⟨o,rfl⟩,h.rl,h.jl,y⟩
def dG (aA:List Sr.bE)(n:Nat)(q x:Sr.St):Prop:=(∀m,Sr.runs (n+m) aA q=Sr.runs m aA x)∧x.steps=q.steps+n∧q.pc+n≤x.pc
theorem dG.refl (aA:List Sr.bE)(q:Sr.St):dG aA 0 q q:=⟨fun m=>by rw[Nat.zero_add],rfl,Nat.le_refl _⟩
theorem dG.trans {aA:List Sr.bE}{n k:Nat}{q q1 q2:Sr.St}(h:dG aA n q q1)(g:dG aA k q1 q2):dG aA (n+k) q q2 :=
 ⟨fun m=>by rw[Nat.add_assoc,h.1,g.1],by rw[g.2.1,h.2.1,Nat.add_assoc],by have:=h.2.2;have:=g.2.2;omega⟩
def At (aA:List Sr.bE)(pc:Nat)(l:List Sr.bE):Prop:=∀i r,l[i]?=some r→aA[pc+i]?=some r
theorem At.left {aA:List Sr.bE}{pc:Nat}{a b:List Sr.bE} (h:At aA pc (a++b)):At aA pc a:=fun i r x=>h i r (by rw[List.getElem?_append_left (List.getElem?_eq_some_iff.1 x).1];exact x)
theorem At.right {aA:List Sr.bE}{pc:Nat}{a b:List Sr.bE} (h:At aA pc (a++b)):At aA (pc+a.length) b:=fun i r x=>by
 rw[Nat.add_assoc];exact h (a.length+i) r (by rw[List.getElem?_append_right (by omega),Nat.add_sub_cancel_left];exact x)
theorem At.head {aA:List Sr.bE}{pc:Nat}{r:Sr.bE}{b:List Sr.bE} (h:At aA pc (r::b)):aA[pc]?=some r:=h 0 r rfl
theorem At.tail {aA:List Sr.bE}{pc:Nat}{r:Sr.bE}{b:List Sr.bE} (h:At aA pc (r::b)):At aA (pc+1) b:=At.right (a:=[r]) h
theorem At.kS {aA:List Sr.bE}{g:Nat→List Sr.bE}{L:Nat} (v:∀k,(g k).length=L):∀(n pc:Nat),At aA pc ((List.range n).flatMap g)→∀k,k<n→At aA (pc+k*L) (g k):=by
 intro n
 induction n with
 |zero=>intro pc _ k z;omega
 |succ n ih =>
  intro pc h k z;rw[List.range_succ,List.flatMap_append]at h;by_cases y:k<n
  ·exact ih pc h.left k y
  ·obtain rfl:k=n:=by omega
   have x:=h.right;have u:((List.range k).flatMap g).length=k*L:=by
    clear h x ih z y
    induction k with
    |zero=>simp
    |succ k ih=>rw[List.range_succ,List.flatMap_append,List.length_append,ih,List.flatMap_singleton,v,Nat.succ_mul]
   rw[u,List.flatMap_singleton]at x;exact x
theorem Zcp {r:Sr.bE}(h:Sr.cN r.op=false)(q:Sr.St):(Sr.deed r q).pc=q.pc∧(Sr.deed r q).steps=q.steps:=by
 have y:¬ r.op.toNat=35:=fun e=>by rw[show r.op=35 by omega]at h;cases h
 have x:¬ r.op.toNat=36:=fun e=>by rw[show r.op=36 by omega]at h;cases h
 have z:¬ r.op.toNat=41:=fun e=>by rw[show r.op=41 by omega]at h;cases h
 clear h;unfold Sr.deed;split
 all_goals (simp only[Sr.put,Sr.bv];refine⟨?_,?_⟩ <;> (repeat' split) <;> first|trivial|rfl|omega)
theorem lL {aA:List Sr.bE}{q:Sr.St}{r:Sr.bE} (h:aA[q.pc]?=some r) (y:r.op≠42) (m:Nat):Sr.runs (1+m) aA q=Sr.runs m aA (Sr.deed r { q with pc:=q.pc+1,steps:=q.steps+1 }):=by
 have x:aA.getD q.pc Sr.jz=r:=by rw[List.getD_eq_getElem?_getD,h];rfl
 rw[Nat.add_comm,Sr.runs,x,if_neg y];unfold Sr.step;rw[x]
theorem Zca {aA:List Sr.bE}{q:Sr.St}{r:Sr.bE} (h:aA[q.pc]?=some r) (u:r.op≠42) (y:Sr.cN r.op=false):dG aA 1 q (Sr.deed r { q with pc:=q.pc+1,steps:=q.steps+1 })∧(Sr.deed r { q with pc:=q.pc+1,steps:=q.steps+1 }).pc=q.pc+1:=by
 obtain⟨x,z⟩:=Zcp y { q with pc:=q.pc+1,steps:=q.steps+1 };exact⟨⟨lL h u,z,by rw[x];exact Nat.le_refl _⟩,x⟩
def eF (n:Nat)(q x:Sr.St):Prop:=∀i,i<n→x.aW.getD (32+i) 0=q.aW.getD (32+i) 0
theorem eF.refl (n:Nat)(q:Sr.St):eF n q q:=fun _ _=>rfl
theorem eF.trans {n:Nat}{q q1 q2:Sr.St}(h:eF n q q1)(g:eF n q1 q2):eF n q q2:=fun i hi=>(g i hi).trans (h i hi)
theorem gE (r:Sr.bE)(q:Sr.St):(Sr.deed r q).aW=q.aW∨∃v,(Sr.deed r q).aW=q.aW.set r.d.toNat v:=by
 unfold Sr.deed;split
 all_goals first
  |exact .inl rfl
  |exact .inr ⟨_,rfl⟩
  | (simp only[Sr.bv];split <;> exact .inl rfl)
  | (simp only;split <;> exact .inl rfl)
theorem Ic {n:Nat}{r:Sr.bE}(h:r.d.toNat<32∨32+n≤r.d.toNat)(q:Sr.St)(pc st:Nat):eF n q (Sr.deed r { q with pc:=pc,steps:=st }):=by
 intro i hi;rcases gE r { q with pc:=pc,steps:=st } with e|⟨v,e⟩
 ·rw[e]
 ·rw[e];simp only[List.getD_eq_getElem?_getD,List.getElem?_set];rw[if_neg (by omega)]
end Sm
namespace Sm
open Mc Hd
theorem Lr {aA:List Sr.bE}{q:Sr.St}{r:Sr.bE}{loops:Nat}{t:St} (v:At aA q.pc [r]) (p:r.op≠42) (u:Sr.cN r.op=false) (z:r.d.toNat<32∨32+loops≤r.d.toNat) (y:∀pc st,dh t (Sr.deed r { q with pc:=pc,steps:=st })) :
  ∃n x,dG aA n q x∧x.pc=q.pc+[r].length∧dh t x∧eF loops q x:=by
 obtain⟨s,k⟩:=Zca v.head p u;exact⟨1,_,s,k,y _ _,Ic z q _ _⟩
theorem Lq (es:List Bu.cV){op:Int}(a next loops:Int)(h:op≠1∧op≠2∧op≠3∧op≠4∧op≠35∧op≠36∧op≠37∧op≠38∧op≠39):Bu.bD es (op,a) next loops=Bu.cg (op,a) (next-1) (next-2):=by
 obtain⟨p,q,v,z,x,r,y,k,u⟩:=h;unfold Bu.bD;simp only[p,q,v,z,x,r,y,k,u,if_false]
theorem Ys {op:Int}(h:1≤op∧op≤39)(x:op≠1∧op≠2∧op≠3∧op≠4∧op≠35∧op≠36∧op≠37∧op≠38∧op≠39) :
  ((Sr.cP op).1=3∧aO op=1∧aV op=1)∨((Sr.cP op).1=7∧aO op=2∧aV op=1)∨((Sr.cP op).1=6∧aO op=2∧aV op=0)∨((op=22∨op=23∨op=24∨op=34)∧(Sr.cP op).1=0∧aO op=0∧aV op=0):=by
 have y:op=5∨op=6∨op=7∨op=8∨op=9∨op=10∨op=11∨op=12∨op=13∨op=14∨op=15∨op=16∨op=17∨op=18∨op=19∨op=20∨op=21∨op=22∨op=23∨op=24∨op=25∨op=26∨op=27∨op=28∨op=29∨op=30∨op=31∨op=32∨op=33∨op=34:=by omega
 clear h x;rcases y with rfl|rfl|rfl|rfl|rfl|rfl|rfl|rfl|rfl|rfl|rfl|rfl|rfl|rfl|rfl|rfl|rfl|rfl|rfl|rfl|rfl|rfl|rfl|rfl|rfl|rfl|rfl|rfl|rfl|rfl
 all_goals decide
theorem Ff {op:Int}(h:op≠35∧op≠36∧op≠41):Sr.cN op=false:=by
 unfold Sr.cN;simp[h.1,h.2.1,h.2.2]
theorem Wq {s:St}(h:1≤s.stack.length):s.stack=s.stack.getD 0 0::s.stack.drop 1:=by
 cases y:s.stack with
 |nil=>rw[y]at h;simp at h
 |cons x r=>rfl
theorem Zaj {s:St}{q:Sr.St}{aA:List Sr.bE}{es:List Bu.cV}(h:dh s q){op a:Int}(B:1≤op∧op≤39)(P:op≠35∧op≠36∧op≠37∧op≠38)(H:aO op≤s.stack.length)(L:s.stack.length+aV op≤32+aO op)(f:s.stack.length≤32)(loops:Nat)(N:loops≤30){next:Int} (r:next=(s.stack.length:Int)) (x:At aA q.pc (Bu.bD es (op,a) next loops)) :
  ∃n u,dG aA n q u∧u.pc=q.pc+(Bu.bD es (op,a) next loops).length∧dh (deed op a s) u∧eF loops q u:=by
 obtain⟨M,T,W,O⟩:=P;by_cases E:op=1∨op=2∨op=3∨op=4∨op=39
 ·rcases E with rfl|rfl|rfl|rfl|rfl
  ·have K:s.stack.length≤31:=by
    have:aO 1=0:=rfl;have:aV 1=1:=rfl;omega
   exact Lr x (by simp) (Ff (by simp)) (.inl (by show next.toNat<32;omega)) fun pc st=>(h.go pc st).put a (bA a) r (by omega) rfl
  ·exact⟨0,q,dG.refl _ _,rfl,h.drop 1,eF.refl _ _⟩
  ·have K:s.stack.length≤31:=by
    have:aO 3=1:=rfl;have:aV 3=2:=rfl;omega
   have k:1≤s.stack.length:=H;have e:=Wq k;refine Lr x (by simp) (Ff (by simp)) (.inl (by show next.toNat<32;omega)) fun pc st=>?_
   have:=(h.go pc st).put (s.stack.getD 0 0) (bA (Sr.get { q with pc:=pc,steps:=st } (next-1))) r (by omega) (by rw[(h.go pc st).bk (by omega) k]);have v:deed 3 a s = { s with stack:=bA (s.stack.getD 0 0)::s.stack } := by
    show ({ s with stack:=bA (s.stack.getD 0 0)::bA (s.stack.getD 0 0)::s.stack.drop 1 }:St)=_
    rw[Vj h.kp.stack 0,←e]
   rw[v];exact this
  ·have k:2≤s.stack.length:=H;obtain⟨F,X⟩:=Zca (q:=q) x.head (by simp) (Ff (by simp));generalize i:Sr.deed ⟨40,63,next-1,0,0⟩ { q with pc:=q.pc+1,steps:=q.steps+1 } = q1 at *;have j:At aA q1.pc [⟨40,next-1,next-2,0,0⟩,⟨40,next-2,63,0,0⟩]:=by rw[X];exact x.tail
   obtain⟨J,w⟩:=Zca (q:=q1) j.head (by simp) (Ff (by simp));generalize g:Sr.deed ⟨40,next-1,next-2,0,0⟩ { q1 with pc:=q1.pc+1,steps:=q1.steps+1 } = q2 at *;have Z:At aA q2.pc [⟨40,next-2,63,0,0⟩]:=by rw[w];exact j.tail
   obtain⟨I,Q⟩:=Zca (q:=q2) Z.head (by simp) (Ff (by simp));have k1:eF loops q q1:=i ▸ Ic (.inr (by show 32+loops≤63;omega)) q _ _;have k2:eF loops q1 q2:=g ▸ Ic (.inl (by show (next-1).toNat<32;omega)) q1 _ _;refine⟨1+1+1,_,(F.trans J).trans I,by rw[Q,w,X];rfl,?_,(k1.trans k2).trans (Ic (.inl (by show (next-2).toNat<32;omega)) q2 _ _)⟩;have U:=h.bk (d:=next-1) (by omega) (by omega);have A:=h.cL (d:=next-2) (by omega) k;have b:q1 = { q with pc:=q.pc+1,steps:=q.steps+1,aW:=q.aW.set 63 (bA (s.stack.getD 0 0)) } := by
    rw[←i,←U];rfl
   have Y:Sr.get q1 (next-2)=s.stack.getD 1 0:=by
    rw[←A,b];unfold Sr.get;simp only[List.getD_eq_getElem?_getD,List.getElem?_set];rw[if_neg (by omega)]
   have v:q2 = { q1 with pc:=q1.pc+1,steps:=q1.steps+1,aW:=q1.aW.set (next-1).toNat (bA (s.stack.getD 1 0)) } := by
    rw[←g,←Y];rfl
   have R:Sr.get q2 63=bA (s.stack.getD 0 0):=by
    rw[v,b];unfold Sr.get;simp only[List.getD_eq_getElem?_getD,List.getElem?_set,List.length_set,h.rl];rw[if_neg (by omega)];simp
   have D:dh { s with stack:=s.stack.drop 2 } q1:=by
    rw[b];have:=((h.drop 2).go (q.pc+1) (q.steps+1)).mK (bA (s.stack.getD 0 0)) (d:=63) (by simp only[List.length_drop];omega);exact this
   have G:((s.stack.drop 2).length:Int)=next-2:=by simp only[List.length_drop];omega
   have V:=(D.put (s.stack.getD 0 0) (bA (bA (s.stack.getD 0 0))) (d:=next-2) G.symm (by simp only[List.length_drop];omega) (Lc _)).put (s.stack.getD 1 0) (bA (s.stack.getD 1 0)) (d:=next-1) (by simp only[List.length_cons];omega) (by simp only[List.length_cons,List.length_drop];omega) rfl;have C:({ q2 with pc:=q2.pc+1,steps:=q2.steps+1,aW:=q2.aW.set (next-2).toNat (bA (Sr.get q2 63)) }:Sr.St) = { Sr.put (Sr.put q1 (next-2) (bA (bA (s.stack.getD 0 0)))) (next-1) (bA (s.stack.getD 1 0)) with pc:=q2.pc+1,steps:=q2.steps+1 } := by
    rw[R,v];simp only[Sr.put];rw[List.set_comm _ _ (by omega)]
   have S:Sr.deed ⟨40,next-2,63,0,0⟩ { q2 with pc:=q2.pc+1,steps:=q2.steps+1 } = { q2 with pc:=q2.pc+1,steps:=q2.steps+1,aW:=q2.aW.set (next-2).toNat (bA (Sr.get q2 63)) } := rfl;rw[S,C];exact V.go _ _
  ·have K:s.stack.length≤31:=by
    have:aO 39=0:=rfl;have:aV 39=1:=rfl;omega
   obtain⟨o,p⟩:=h.co;refine Lr x (by simp) (Ff (by simp)) (.inl (by show next.toNat<32;omega)) fun pc st=>(h.go pc st).put s.size q.m.size r (by omega) ?_
   rw[p];exact h.kp.size.symm
 ·have l:op≠1∧op≠2∧op≠3∧op≠4∧op≠35∧op≠36∧op≠37∧op≠38∧op≠39:=by omega
  have z:Sr.cN op=false:=Ff (by omega);rw[Lq es a next loops l]at x ⊢;unfold Bu.cg at x ⊢;simp only at x ⊢;rcases Ys B l with⟨y,c,_⟩|⟨y,c,_⟩|⟨y,c,_⟩|⟨p,y,c,_⟩
  ·rw[if_pos y]at x ⊢;exact Lr x (by show op≠42;omega) z (.inl (by show (next-1).toNat<32;omega)) fun pc st=>Zjm (h.go pc st) op a y (by omega) (by omega) f (by omega)
  ·rw[if_neg (by omega),if_pos y]at x ⊢;exact Lr x (by show op≠42;omega) z (.inl (by show (next-2).toNat<32;omega)) fun pc st=>Zjk (h.go pc st) op a y (by omega) f (by omega) (by omega)
  ·rw[if_neg (by omega),if_neg (by omega),if_pos y]at x ⊢;exact Lr x (by show op≠42;omega) z (.inl (by show (0:Int).toNat<32;decide)) fun pc st=>Zjl (h.go pc st) op a y (by omega) (by omega) (by omega)
  ·rw[if_neg (by omega),if_neg (by omega),if_neg (by omega)]at x ⊢;exact Lr x (by show op≠42;omega) z (.inl (by show (0:Int).toNat<32;decide)) fun pc st=>Zen (h.go pc st) op a p
theorem Zbz {aA:List Sr.bE}{q:Sr.St}{n:Int} (h:aA[q.pc]?=some ⟨35,0,0,0,n⟩):dG aA 1 q { q with pc:=q.pc+1+n.toNat,steps:=q.steps+1 } :=
 ⟨lL h (by simp),rfl,by show q.pc+1≤q.pc+1+n.toNat;omega⟩
theorem Xv {aA:List Sr.bE}{q:Sr.St}{a n:Int} (h:aA[q.pc]?=some ⟨36,0,a,0,n⟩):dG aA 1 q { q with pc:=if Sr.get q a=0 then q.pc+1+n.toNat else q.pc+1,steps:=q.steps+1 } := by
 have e:Sr.deed ⟨36,0,a,0,n⟩ { q with pc:=q.pc+1,steps:=q.steps+1 } = { q with pc:=if Sr.get q a=0 then q.pc+1+n.toNat else q.pc+1,steps:=q.steps+1 } := by
  show Sr.bv _ n (decide (Sr.get q a=0))=_
  unfold Sr.bv;by_cases x:Sr.get q a=0 <;> simp[x]
 refine⟨fun m=>by rw[lL h (by show (36:Int)≠42;decide),e],rfl,?_⟩
 show q.pc+1≤if Sr.get q a=0 then q.pc+1+n.toNat else q.pc+1
 split <;> omega
theorem Jy {aA:List Sr.bE}{q:Sr.St}{a b n:Int} (h:aA[q.pc]?=some ⟨41,0,a,b,n⟩):dG aA 1 q { q with pc:=if Sr.get q a≤b then q.pc+1+n.toNat else q.pc+1,steps:=q.steps+1 } := by
 have e:Sr.deed ⟨41,0,a,b,n⟩ { q with pc:=q.pc+1,steps:=q.steps+1 } = { q with pc:=if Sr.get q a≤b then q.pc+1+n.toNat else q.pc+1,steps:=q.steps+1 } := by
  show Sr.bv _ n (decide (Sr.get q a≤b))=_
  unfold Sr.bv;by_cases x:Sr.get q a≤b <;> simp[x]
 refine⟨fun m=>by rw[lL h (by show (41:Int)≠42;decide),e],rfl,?_⟩
 show q.pc+1≤if Sr.get q a≤b then q.pc+1+n.toNat else q.pc+1
 split <;> omega
def Zdn (fl:List (List (Int×Int))) (aA:List Sr.bE) (es:List Bu.cV) (j:Nat) (c:Bd.aa):Prop :=
 ∀(s:St) (m:Nat) (r:List Fm) (q:Sr.St) (loops:Nat),s.aD=⟨fl.getD j [],0,m⟩::r→s.ai=false→s.bp=0→s.funcs=fl→c.aU≤s.stack.length→s.stack.length+c.aL≤32→r.length+1+j≤21→loops≤r.length→dh s q→At aA q.pc (Bu.em es j s.stack.length loops) →
  ∃k t n x,Goes k s t∧fv s t k (⟨fl.getD j [],(fl.getD j []).length,m⟩::r) (s.stack.length+c.aL)∧(t.stack.length:Int)=s.stack.length+c.delta∧(k:Int)≤c.steps∧dG aA n q x∧x.pc=q.pc+(Bu.em es j s.stack.length loops).length∧dh t x∧eF loops q x
theorem Se {l:List (Int×Int)} {m:Nat} {r:List Fm}:settle (⟨l,0,m⟩::r)=settle (⟨l,l.length,m+1⟩::r):=by
 by_cases h:0<l.length
 ·exact(Km h).symm
 ·obtain rfl:l=[]:=List.length_eq_zero_iff.1 (by omega);rw[ea];exact(ea (m:=m+1)).symm
theorem Zch (k L:Nat)(x:k<16):k*(1+L)+1+((16-(k:Int))*(1+(L:Int))-1).toNat=16*(1+L):=by
 have h:k=0∨k=1∨k=2∨k=3∨k=4∨k=5∨k=6∨k=7∨k=8∨k=9∨k=10∨k=11∨k=12∨k=13∨k=14∨k=15:=by omega
 rcases h with rfl|rfl|rfl|rfl|rfl|rfl|rfl|rfl|rfl|rfl|rfl|rfl|rfl|rfl|rfl|rfl <;> omega
theorem Zfn {fl:List (List (Int×Int))} {aA:List Sr.bE} {es:List Bu.cV} {j:Nat} {c:Bd.aa} (N:Zdn fl aA es j c) (hd:c.delta=0) (loops:Nat) (x:Int) (f L h:Nat) (T:(Bu.em es j h ((loops:Int)+1)).length=L)
  (F:∀i:Nat,i<16→At aA (f+i*(1+L)) (⟨41,0,32+(loops:Int),(i:Int),(16-(i:Int))*(1+(L:Int))-1⟩::Bu.em es j h ((loops:Int)+1))) :
  ∀(z k:Nat) (s:St) (r:List Fm) (q:Sr.St),min x 16=(k:Int)+z+1→s.stack.length=h→s.aD=⟨fl.getD j [],0,z⟩::r→s.ai=false→s.bp=0→s.funcs=fl→c.aU≤s.stack.length→s.stack.length+c.aL≤32→r.length+1+j≤21→loops+1≤r.length→dh s q→q.pc=f+k*(1+L)→q.aW.getD (32+loops) 0=x →
  ∃S t n y,Goes S s t∧fv s t S r (s.stack.length+c.aL)∧t.stack.length=s.stack.length∧(S:Int)≤(z+1)*c.steps∧dG aA n q y∧y.pc=f+16*(1+L)∧dh t y∧eF loops q y:=by
 intro z
 induction z with
 |zero =>
  intro k s r q hx o J G D U Q E H K P d e;have R:k<16:=by omega
  have u:=F k R;rw[←d]at u;have A:Sr.get q (32+(loops:Int))=x:=by unfold Sr.get;rw[show (32+(loops:Int)).toNat=32+loops by omega];exact e
  have p:=Jy u.head;rw[A,if_neg (by omega)]at p;have I:At aA (q.pc+1) (Bu.em es j s.stack.length ((loops+1:Nat):Int)):=by rw[o];exact u.tail
  obtain⟨k1,t,n,y,V,v,e3,C,w,g,B,m⟩:=N s 0 r { q with pc:=q.pc+1,steps:=q.steps+1 } (loops+1) J G D U Q E H K (P.go _ _) I;obtain⟨a,b⟩:=v.left (Y:=r) da.symm;have Z:dh { t with aD:=r } y:=B.iT t.funcs r t.steps t.aL t.ai t.bp;have X:eF loops q y:=fun i hi=>m i (by omega)
  rw[o]at g;have l:y.pc=f+(k+1)*(1+L):=by
   rw[g,Nat.succ_mul]
   show q.pc+1+(Bu.em es j h ((loops:Int)+1)).length=_
   rw[T,d];omega
  have mm:(t.stack.length:Int)=s.stack.length:=by omega
  by_cases M:k+1<16
  ·have O:=F (k+1) M;rw[←l]at O;have q':Sr.get y (32+(loops:Int))=x:=by
    unfold Sr.get;rw[show (32+(loops:Int)).toNat=32+loops by omega,m loops (by omega)];exact e
   have W:=Jy O.head;rw[q',if_pos (by omega)]at W;have e2:=Zch (k+1) L M;refine⟨k1,_,_,_,V.iT a,b,by simp only;omega,by simpa using C,(p.trans w).trans W,?_,Z.go _ _,X⟩;simp only;rw[l];omega
  ·refine⟨k1,_,_,_,V.iT a,b,by simp only;omega,by simpa using C,p.trans w,?_,Z,X⟩;rw[l];obtain rfl:k=15:=by omega
   rfl
 |succ z ih =>
  intro k s r q hx o J G D U Q E H K P d e;have R:k<16:=by omega
  have u:=F k R;rw[←d]at u;have A:Sr.get q (32+(loops:Int))=x:=by unfold Sr.get;rw[show (32+(loops:Int)).toNat=32+loops by omega];exact e
  have p:=Jy u.head;rw[A,if_neg (by omega)]at p;have I:At aA (q.pc+1) (Bu.em es j s.stack.length ((loops+1:Nat):Int)):=by rw[o];exact u.tail
  obtain⟨k1,t,n,y,V,v,e3,C,w,g,B,m⟩:=N s (z+1) r { q with pc:=q.pc+1,steps:=q.steps+1 } (loops+1) J G D U Q E H K (P.go _ _) I;obtain⟨a,b⟩:=v.left (Y:=⟨fl.getD j [],0,z⟩::r) Se;have Z:dh { t with aD:=⟨fl.getD j [],0,z⟩::r } y:=B.iT t.funcs (⟨fl.getD j [],0,z⟩::r) t.steps t.aL t.ai t.bp;have X:eF loops q y:=fun i hi=>m i (by omega)
  rw[o]at g;have l:y.pc=f+(k+1)*(1+L):=by
   rw[g,Nat.succ_mul]
   show q.pc+1+(Bu.em es j h ((loops:Int)+1)).length=_
   rw[T,d];omega
  have mm:(t.stack.length:Int)=s.stack.length:=by omega
  have ha:(((z+1:Nat):Int)+1)*c.steps=((z:Int)+1)*c.steps+c.steps:=by rw[Int.add_mul];simp
  obtain⟨k',t',n',q2,f1,f2,f3,f4,f5,f6,f7,f8⟩:=ih (k+1) { t with aD:=⟨fl.getD j [],0,z⟩::r } r y (by omega) (by simp only;omega) rfl v.en v.er (v.fu.trans U) (by simp only;omega) (by simp only;omega) H K Z l (by rw[m loops (by omega)];exact e);exact⟨k1+k',t',_,q2,(V.iT a).trans f1,b.trans f2 (Int.le_refl _) (by simp only;omega),by rw[f3];simp only;omega,by rw[ha];omega,(p.trans w).trans f5,f6,f7,X.trans f8⟩
end Sm
namespace Bu
def st (fs:List Bd.aa)(ps:List aq) (l:List (Int×Int)) (i:Nat):gh:=bJ fs ps (l.take i) 0 (start l.length)
theorem Xd (fs:List Bd.aa)(ps:List aq) (l r:List (Int×Int)):∀(i:Nat) (s:gh),bJ fs ps (l++r) i s=bJ fs ps r (i+l.length) (bJ fs ps l i s):=by
 induction l with
 |nil=>intro i s;rfl
 |cons x l ih =>
  intro i s;rw[List.cons_append,bJ,bJ,ih,List.length_cons,Nat.add_assoc,Nat.add_comm 1]
theorem dJ (fs:List Bd.aa)(ps:List aq) {l:List (Int×Int)} {i:Nat} {x:Int×Int} (h:l[i]?=some x):st fs ps l (i+1)=bu fs ps i x (st fs ps l i):=by
 have hi:=(List.getElem?_eq_some_iff.1 h).1;unfold st;rw[List.take_add_one,h,Option.toList_some,Xd,List.length_take,Nat.min_eq_left (Nat.le_of_lt hi),Nat.zero_add];rfl
structure Len (n:Nat) (s:gh):Prop where
 aR:s.aR.length=n+1
 aC:s.aC.length=n+1
 index:s.index.length=n+1
theorem Uj (fs:List Bd.aa)(ps:List aq) (l:List (Int×Int)):∀i,i≤l.length→Len l.length (st fs ps l i):=by
 intro i
 induction i with
 |zero=>intro _;exact⟨by simp[st,bJ,start],by simp[st,bJ,start],by simp[st,bJ,start]⟩
 |succ i ih =>
  intro hi;obtain⟨x,y⟩:∃x,l[i]?=some x:=⟨_,List.getElem?_eq_getElem (by omega)⟩;rw[dJ fs ps y];have h:=ih (by omega);unfold bu;split
  ·exact h
  ·refine⟨?_,?_,?_⟩
   ·dsimp only;split <;> simp[h.aR]
   ·dsimp only;split <;> simp[h.aC]
   ·simp[h.index]
theorem getD_set_ne {α:Type}{l:List α}{i k:Nat}(a d:α)(h:i≠k):(l.set i a).getD k d=l.getD k d:=by
 simp only[List.getD_eq_getElem?_getD,List.getElem?_set,h,if_false]
theorem Ef {α:Type}{l:List α}{i:Nat}(a d:α)(h:i<l.length):(l.set i a).getD i d=a:=by
 simp[List.getD_eq_getElem?_getD,h]
theorem Zah (fs:List Bd.aa)(ps:List aq)(i:Nat)(x:Int×Int)(s:gh)(k:Nat)(y:k≤i):(bu fs ps i x s).aR.getD k false=s.aR.getD k false∧(bu fs ps i x s).aC.getD k 0=s.aC.getD k 0:=by
 unfold bu;split
 ·exact⟨rfl,rfl⟩
 ·dsimp only;refine⟨?_,?_⟩
  ·split
   ·rw[getD_set_ne _ _ (by omega)]
   ·rw[getD_set_ne _ _ (by omega),getD_set_ne _ _ (by omega)]
  ·split
   ·rw[getD_set_ne _ _ (by omega)]
   ·rw[getD_set_ne _ _ (by omega),getD_set_ne _ _ (by omega)]
theorem Sq (fs:List Bd.aa)(ps:List aq)(i:Nat)(x:Int×Int)(s:gh)(k:Nat)(y:k≠i):(bu fs ps i x s).index.getD k 0=s.index.getD k 0:=by
 unfold bu;split
 ·rfl
 ·exact getD_set_ne _ _ (fun e=>y e.symm)
theorem st_old (fs:List Bd.aa)(ps:List aq) (l:List (Int×Int)) (k:Nat):∀d,k+d≤l.length→(st fs ps l (k+d)).aR.getD k false=(st fs ps l k).aR.getD k false∧(st fs ps l (k+d)).aC.getD k 0=(st fs ps l k).aC.getD k 0:=by
 intro d
 induction d with
 |zero=>intro _;exact⟨rfl,rfl⟩
 |succ d ih =>
  intro v;obtain⟨x,y⟩:∃x,l[k+d]?=some x:=⟨_,List.getElem?_eq_getElem (by omega)⟩;rw[←Nat.add_assoc,dJ fs ps y];obtain⟨u,z⟩:=Zah fs ps (k+d) x (st fs ps l (k+d)) k (by omega);rw[u,z];exact ih (by omega)
theorem Zei (fs:List Bd.aa)(ps:List aq) (l:List (Int×Int)) (k:Nat):∀d,k+1+d≤l.length→(st fs ps l (k+1+d)).index.getD k 0=(st fs ps l (k+1)).index.getD k 0:=by
 intro d
 induction d with
 |zero=>intro _;rfl
 |succ d ih =>
  intro z;obtain⟨x,y⟩:∃x,l[k+1+d]?=some x:=⟨_,List.getElem?_eq_getElem (by omega)⟩;rw[←Nat.add_assoc,dJ fs ps y,Sq _ _ _ _ _ _ (by omega)];exact ih (by omega)
theorem Sp (fs:List Bd.aa)(ps:List aq)(i:Nat)(x:Int×Int)(s:gh):∃r,(bu fs ps i x s).steps=s.steps++r:=by
 unfold bu;split
 ·exact⟨[],by simp⟩
 ·dsimp only;split
  ·exact⟨_,rfl⟩
  ·exact⟨[],by simp⟩
theorem Ui (fs:List Bd.aa)(ps:List aq) (l:List (Int×Int)) (k:Nat):∀d,k+d≤l.length→∃r,(st fs ps l (k+d)).steps=(st fs ps l k).steps++r:=by
 intro d
 induction d with
 |zero=>intro _;exact⟨[],by simp⟩
 |succ d ih =>
  intro q;obtain⟨x,y⟩:∃x,l[k+d]?=some x:=⟨_,List.getElem?_eq_getElem (by omega)⟩;rw[←Nat.add_assoc,dJ fs ps y];obtain⟨z,p⟩:=ih (by omega);obtain⟨u,v⟩:=Sp fs ps (k+d) x (st fs ps l (k+d));exact⟨z++u,by rw[v,p,List.append_assoc]⟩
def eI (fs:List Bd.aa)(ps:List aq) (l:List (Int×Int)) (i:Nat):Nat:=(st fs ps l i).steps.length
def kn (fs:List Bd.aa)(ps:List aq) (l:List (Int×Int)) (i:Nat):Bool:=(st fs ps l i).aR.getD i false
theorem fI (fs:List Bd.aa)(ps:List aq) (l:List (Int×Int)) {i j:Nat} (h:i≤j) (y:j≤l.length):eI fs ps l i≤eI fs ps l j:=by
 obtain⟨r,x⟩:=Ui fs ps l i (j-i) (by omega);rw[show i+(j-i)=j by omega]at x;unfold eI;rw[x,List.length_append];omega
theorem go_at (fs:List Bd.aa)(ps:List aq) (l:List (Int×Int)) {t:Nat} (k:t≤l.length) (z:kn fs ps l t=true):((st fs ps l l.length).index.set l.length (st fs ps l l.length).steps.length).getD t 0=eI fs ps l t:=by
 have p:=(Uj fs ps l l.length (Nat.le_refl _)).index;by_cases y:t=l.length
 ·subst y;rw[Ef _ _ (by omega)];rfl
 ·rw[getD_set_ne _ _ (fun e=>y e.symm)];have u:=Zei fs ps l t (l.length-(t+1)) (by omega);rw[show t+1+(l.length-(t+1))=l.length by omega]at u;rw[u];obtain⟨x,v⟩:∃x,l[t]?=some x:=⟨_,List.getElem?_eq_getElem (by omega)⟩;rw[dJ fs ps v];unfold bu;unfold kn at z;rw[if_neg (by simpa using z)];dsimp only;rw[Ef _ _ (by have:=(Uj fs ps l t k).index;omega)];rfl
structure kw (fs:List Bd.aa) (ps:List aq) (l:List (Int×Int)) (p:aq) (P:List Bd.Place):Prop where
 k0:kn fs ps l 0=true
 c0:eI fs ps l 0=0
 lK:eI fs ps l l.length=p.steps.length
 aR:∀i,i≤l.length→kn fs ps l i=true→(Bd.bj P i).aR=true
 step:∀(i:Nat) x,l[i]?=some x→kn fs ps l i=true→(∀t:Nat,(t:Int)∈Bd.ways i x→kn fs ps l t=true) ∧
  ((0<sizeOf x ps∧p.steps[eI fs ps l i]?=some ⟨x.1,x.2,(Bd.bj P i).aC,eI fs ps l (i+1+jump x)⟩∧eI fs ps l (i+1)=eI fs ps l i+1)∨(sizeOf x ps≤0∧eI fs ps l (i+1)=eI fs ps l i))
theorem Xu {fs:List Bd.aa}{p:Bd.Place}{x:Int×Int}(h:1≤x.1∧x.1≤39):p.aC+bZ x fs=(Bd.ay fs p x).aC:=by
 obtain⟨op,a⟩:=x;simp only at h;unfold bZ Bd.ay;simp only;have y:op=1∨op=2∨op=3∨op=4∨op=5∨op=6∨op=7∨op=8∨op=9∨op=10∨op=11∨op=12∨op=13∨op=14∨op=15∨op=16∨op=17∨op=18∨op=19∨op=20∨op=21∨op=22∨op=23∨op=24∨op=25∨op=26∨op=27∨op=28∨op=29∨op=30∨op=31∨op=32∨op=33∨op=34∨op=35∨op=36∨op=37∨op=38∨op=39:=by omega
 clear h;rcases y with rfl|rfl|rfl|rfl|rfl|rfl|rfl|rfl|rfl|rfl|rfl|rfl|rfl|rfl|rfl|rfl|rfl|rfl|rfl|rfl|rfl|rfl|rfl|rfl|rfl|rfl|rfl|rfl|rfl|rfl|rfl|rfl|rfl|rfl|rfl|rfl|rfl|rfl|rfl
 all_goals (simp[Bd.ao,Bd.aO,Bd.aV,Sr.cP];try omega)
theorem Rz (fs:List Bd.aa)(ps:List aq) {l:List (Int×Int)} {i:Nat} {x:Int×Int} (k:l[i]?=some x) (p:Bd.bn l.length fs.length i x=0) (s:kn fs ps l i=true) (t:Nat) (z:(t:Int)∈Bd.ways i x):t≤l.length∧i<t∧(st fs ps l (i+1)).aR.getD t false=true∧(st fs ps l (i+1)).aC.getD t 0=(st fs ps l i).aC.getD i 0+bZ x fs:=by
 have hi:=(List.getElem?_eq_some_iff.1 k).1;obtain⟨m,f,d,a⟩:=Hd.fm p hi t z;obtain rfl:t=m:=by omega
 obtain⟨j,q,n⟩:=Hd.cB p;have r:=Uj fs ps l i (by omega);have g:=r.aR;have e:=r.aC;refine⟨a,d,?_⟩;rw[dJ fs ps k];unfold kn at s;unfold bu;rw[if_neg (by simpa using s)];dsimp only;unfold Bd.ways at z;by_cases y:x.1=35
 ·have b:jump x=x.2.toNat:=by unfold jump;rw[if_pos (.inl y)]
  have:=q (.inl y);have v:t=i+1+jump x:=by
   rw[if_pos y,if_pos (by simp[Bd.az,y])]at z;simp at z;omega
  rw[if_pos y,if_pos y,←v];exact⟨Ef _ _ (by omega),Ef _ _ (by omega)⟩
 ·rw[if_neg y,if_neg y];by_cases c:t=i+1
  ·subst c;exact⟨Ef _ _ (by simp;omega),Ef _ _ (by simp;omega)⟩
  ·by_cases u:x.1=36
   ·have b:jump x=x.2.toNat:=by unfold jump;rw[if_pos (.inr u)]
    have:=q (.inr u);have v:t=i+1+jump x:=by
     rw[if_neg y,if_pos (by simp[Bd.az,u])]at z;simp only[List.mem_append,List.mem_singleton]at z;omega
    rw[←v];exact⟨by rw[getD_set_ne _ _ (by omega)];exact Ef _ _ (by omega),by rw[getD_set_ne _ _ (by omega)];exact Ef _ _ (by omega)⟩
   ·exfalso;rw[if_neg y,if_neg (by simp[Bd.az,y,u])]at z;simp at z;omega
theorem Zgu {fs:List Bd.aa}{ps:List aq} {l:List (Int×Int)} {c:Bd.aa} {P:List Bd.Place} (h:Hd.jI l.length fs l c P):∀i,i≤l.length→∀k,k≤l.length→(st fs ps l i).aR.getD k false=true→(Bd.bj P k).aR=true∧(st fs ps l i).aC.getD k 0=(Bd.bj P k).aC:=by
 intro i
 induction i with
 |zero =>
  intro _ k a z;have b:=h.p0;cases k with
  |zero=>exact⟨b.1,by simp[st,bJ,start];exact b.2.1.symm⟩
  |succ k =>
   exfalso;simp[st,bJ,start,List.getD_eq_getElem?_getD,List.getElem?_replicate]at z;split at z <;> simp at z
 |succ i ih =>
  intro hi k a z;obtain⟨x,q⟩:∃x,l[i]?=some x:=⟨_,List.getElem?_eq_getElem (by omega)⟩;have r:=h.ok i x q;by_cases u:kn fs ps l i=true
  ·by_cases v:(k:Int)∈Bd.ways i x
   ·obtain⟨_,_,w1,w2⟩:=Rz fs ps q r.al u k v;obtain⟨w,n⟩:=ih (by omega) i (by omega) u;obtain⟨_,_,_,o⟩:=r.kn w;obtain⟨q1,q2,_⟩:=o k v;refine⟨q1,?_⟩;rw[w2,q2,n,Xu (Hd.cB r.al).1]
   ·have j:(st fs ps l (i+1)).aR.getD k false=(st fs ps l i).aR.getD k false∧(st fs ps l (i+1)).aC.getD k 0=(st fs ps l i).aC.getD k 0:=by
     obtain⟨H,d,K⟩:=Hd.cB r.al;rw[dJ fs ps q];unfold kn at u;unfold bu;rw[if_neg (by simpa using u)];dsimp only;unfold Bd.ways at v;by_cases y:x.1=35
     ·have f:jump x=x.2.toNat:=by unfold jump;rw[if_pos (.inl y)]
      have:=d (.inl y);have p:i+1+jump x≠k:=fun e=>v (by
       rw[if_pos y,if_pos (by simp[Bd.az,y])];simp;omega)
      rw[if_pos y,if_pos y];exact⟨getD_set_ne _ _ p,getD_set_ne _ _ p⟩
     ·have g:i+1≠k:=fun e=>v (by
       rw[if_neg y];simp;omega)
      have p:i+1+jump x≠k:=fun e=>by
       by_cases s:x.1=36
       ·have f:jump x=x.2.toNat:=by unfold jump;rw[if_pos (.inr s)]
        have:=d (.inr s);exact v (by
         rw[if_neg y,if_pos (by simp[Bd.az,s])];simp;omega)
       ·have f:jump x=0:=by unfold jump;rw[if_neg (by omega)]
        omega
      rw[if_neg y,if_neg y];exact⟨by rw[getD_set_ne _ _ g,getD_set_ne _ _ p],by rw[getD_set_ne _ _ g,getD_set_ne _ _ p]⟩
    rw[j.1]at z;rw[j.2];exact ih (by omega) k a z
  ·have m:st fs ps l (i+1)=st fs ps l i:=by
    rw[dJ fs ps q];unfold bu;unfold kn at u;rw[if_pos (by simpa using u)]
   rw[m]at z ⊢;exact ih (by omega) k a z
theorem dc {fs:List Bd.aa}(ps:List aq) {l:List (Int×Int)} {c:Bd.aa} {P:List Bd.Place} (h:Hd.jI l.length fs l c P):kw fs ps l (aY l fs ps) P:=by
 have j:(aY l fs ps).steps=(st fs ps l l.length).steps.map fun p => { p with go:=((st fs ps l l.length).index.set l.length (st fs ps l l.length).steps.length).getD p.go 0 } := by
  unfold aY st;rw[List.take_length]
 have K:∀(i:Nat) x,l[i]?=some x→kn fs ps l i=true→∀t:Nat,(t:Int)∈Bd.ways i x→kn fs ps l t=true:=fun i x z u t Q=>by
  obtain⟨w1,w2,Z,_⟩:=Rz fs ps z (h.ok i x z).al u t Q;have:=(List.getElem?_eq_some_iff.1 z).1;obtain⟨A,_⟩:(st fs ps l t).aR.getD t false=(st fs ps l t).aR.getD t false∧True:=⟨rfl,trivial⟩;have key:∀d,i+1+d≤t→(st fs ps l (i+1+d)).aR.getD t false=true:=by
   intro d
   induction d with
   |zero=>intro _;exact Z
   |succ d ih =>
    intro B;obtain⟨y,V⟩:∃y,l[i+1+d]?=some y:=⟨_,List.getElem?_eq_getElem (by omega)⟩;rw[←Nat.add_assoc,dJ fs ps V];have e:=ih (by omega);have S:=(Uj fs ps l (i+1+d) (by omega)).aR;unfold bu;split
    ·exact e
    ·dsimp only;have s:∀(m:Nat) (L:List Bool),L.getD t false=true→(L.set m true).getD t false=true:=fun m L q=>by
      simp only[List.getD_eq_getElem?_getD,List.getElem?_set]at q ⊢;by_cases g:m=t
      ·subst g;have:m<L.length:=by
        apply Classical.byContradiction;intro R;rw[List.getElem?_eq_none (by omega)]at q;cases q
       simp[this]
      ·simpa [g]using q
     split
     ·exact s _ _ e
     ·exact s _ _ (s _ _ e)
  have:=key (t-(i+1)) (by omega);rw[show i+1+(t-(i+1))=t by omega]at this;exact this
 refine⟨by simp[kn,st,bJ,start],by simp[eI,st,bJ,start],by rw[j,List.length_map];rfl,fun i hi u=>(Zgu h i hi i hi u).1,fun i x z u=>⟨K i x z u,?_⟩⟩;have hi:=(List.getElem?_eq_some_iff.1 z).1;have U:=(Zgu (ps:=ps) h i (by omega) i (by omega) u).2;obtain⟨C,n,D⟩:=Hd.cB (h.ok i x z).al;have H:((i+1+jump x:Nat):Int)∈Bd.ways i x:=by
  unfold Bd.ways;by_cases v:x.1=35
  ·have b:jump x=x.2.toNat:=by unfold jump;rw[if_pos (.inl v)]
   have:=n (.inl v);rw[if_pos v,if_pos (by simp[Bd.az,v])];simp;omega
  ·by_cases f:x.1=36
   ·have b:jump x=x.2.toNat:=by unfold jump;rw[if_pos (.inr f)]
    have:=n (.inr f);rw[if_neg v,if_pos (by simp[Bd.az,f])];simp;omega
   ·have b:jump x=0:=by unfold jump;rw[if_neg (by omega)]
    rw[b,if_neg v];simp
 have X:=K i x z u _ H;have Y:=(Rz fs ps z (h.ok i x z).al u _ H).1;have k:=dJ fs ps z;unfold kn at u;unfold bu at k;rw[if_neg (by simpa using u)]at k;by_cases a:0<sizeOf x ps
 ·left
  have o:(st fs ps l (i+1)).steps=(st fs ps l i).steps++[⟨x.1,x.2,(st fs ps l i).aC.getD i 0,i+1+jump x⟩]:=by
   rw[k];dsimp only;rw[if_pos a]
  refine⟨a,?_,?_⟩
  ·obtain⟨r,w⟩:=Ui fs ps l (i+1) (l.length-(i+1)) (by omega);rw[show i+1+(l.length-(i+1))=l.length by omega,o]at w;rw[j,List.getElem?_map];have:(st fs ps l l.length).steps[eI fs ps l i]?=some ⟨x.1,x.2,(st fs ps l i).aC.getD i 0,i+1+jump x⟩:=by
    rw[w];unfold eI;rw[List.append_assoc,List.getElem?_append_right (by omega),Nat.sub_self];rfl
   rw[this];simp only[Option.map_some];rw[go_at fs ps l Y X,U]
  ·unfold eI;rw[o,List.length_append];rfl
 ·right
  refine⟨by omega,?_⟩;unfold eI;rw[k];dsimp only;rw[if_neg a]
end Bu
end
end Go.Proofs.YtnhebmgibiomnaaGreat
