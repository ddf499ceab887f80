import Derived.Test.YtnhebmgibiomnaaGreatPi0
set_option linter.unusedVariables false
set_option linter.unusedSimpArgs false
set_option maxRecDepth 100000
set_option maxHeartbeats 8000000
namespace Go.Proofs.YtnhebmgibiomnaaGreat
section
namespace Hd
open Mc
theorem Qp {l:List (Int×Int)} {i m:Nat} {r:List Fm} (h:i<l.length):settle (⟨l,i,m⟩::r)=⟨l,i,m⟩::r:=by rw[settle,if_pos h]
theorem dg {l:List (Int×Int)} {r:List Fm}:settle (⟨l,l.length,0⟩::r)=settle r:=by rw[settle,if_neg (by simp),if_neg (by simp)]
theorem Ky {l:List (Int×Int)} {m:Nat} {r:List Fm} (h:0<l.length):settle (⟨l,l.length,m+1⟩::r)=settle (⟨l,0,m⟩::r):=by
 rw[settle,if_neg (by simp),if_pos ⟨by simp,h⟩,Qp h];rfl
theorem e_ {m:Nat}{r:List Fm}:settle (⟨[],0,m⟩::r)=settle r:=by rw[settle,if_neg (by simp),if_neg (by simp)]
def Same (s t:St):Prop:=t.funcs=s.funcs∧t.ai=s.ai∧t.br=s.br∧t.steps=s.steps∧t.aM=s.aM
theorem Nb (op a:Int)(s:St):Same s (deed op a s):=by
 unfold deed;simp only;split <;> (first|exact⟨rfl,rfl,rfl,rfl,rfl⟩|skip)
 all_goals (try unfold cC)
 all_goals (try unfold call)
 all_goals (repeat' split)
 all_goals exact⟨rfl,rfl,rfl,rfl,rfl⟩
theorem Nc (op a:Int)(s:St)(y:1≤op)(x:op<35∨op=39):(deed op a s).aD=s.aD:=by
 unfold deed;simp only;split <;> (first|rfl|skip)
 all_goals (try (exfalso;omega))
 all_goals (repeat' split)
 all_goals rfl
theorem Lr {p:Prop}[Decidable p]{s t:St}:(if p then s else t).stack=if p then s.stack else t.stack:=by split <;> rfl
theorem Oe (s:St)(a:Int):(cC s a).stack=s.stack:=by unfold cC;split <;> rfl
theorem Oo (s:St)(a b:Int):(call s a b).stack=s.stack:=by unfold call;split <;> rfl
theorem nB (a:Int)(s:St):(deed 1 a s).stack.length=s.stack.length-0+1:=rfl
theorem nL (a:Int)(s:St):(deed 2 a s).stack.length=s.stack.length-1+0:=by show (s.stack.drop 1).length=_;exact List.length_drop
theorem mh (a:Int)(s:St):(deed 3 a s).stack.length=s.stack.length-1+2:=by show (s.stack.drop 1).length+1+1=_;rw[List.length_drop]
theorem nJ (a:Int)(s:St):(deed 4 a s).stack.length=s.stack.length-2+2:=by show (s.stack.drop 2).length+1+1=_;rw[List.length_drop]
theorem nh (a:Int)(s:St):(deed 5 a s).stack.length=s.stack.length-2+1:=by show (s.stack.drop 2).length+1=_;rw[List.length_drop]
theorem nD (a:Int)(s:St):(deed 6 a s).stack.length=s.stack.length-2+1:=by show (s.stack.drop 2).length+1=_;rw[List.length_drop]
theorem mZ (a:Int)(s:St):(deed 7 a s).stack.length=s.stack.length-2+1:=by show (s.stack.drop 2).length+1=_;rw[List.length_drop]
theorem nF (a:Int)(s:St):(deed 8 a s).stack.length=s.stack.length-2+1:=by show (s.stack.drop 2).length+1=_;rw[List.length_drop]
theorem nt (a:Int)(s:St):(deed 9 a s).stack.length=s.stack.length-1+1:=by show (s.stack.drop 1).length+1=_;rw[List.length_drop]
theorem Zjq (a:Int)(s:St):(deed 10 a s).stack.length=s.stack.length-1+1:=by show (s.stack.drop 1).length+1=_;rw[List.length_drop]
theorem Zjp (a:Int)(s:St):(deed 11 a s).stack.length=s.stack.length-2+1:=by show (s.stack.drop 2).length+1=_;rw[List.length_drop]
theorem Zjo (a:Int)(s:St):(deed 12 a s).stack.length=s.stack.length-2+1:=by show (s.stack.drop 2).length+1=_;rw[List.length_drop]
theorem Zjn (a:Int)(s:St):(deed 13 a s).stack.length=s.stack.length-1+1:=by show (s.stack.drop 1).length+1=_;rw[List.length_drop]
theorem Zjm (a:Int)(s:St):(deed 14 a s).stack.length=s.stack.length-1+1:=by show (s.stack.drop 1).length+1=_;rw[List.length_drop]
theorem Zjl (a:Int)(s:St):(deed 15 a s).stack.length=s.stack.length-1+1:=by show (s.stack.drop 1).length+1=_;rw[List.length_drop]
theorem Zjk (a:Int)(s:St):(deed 16 a s).stack.length=s.stack.length-2+1:=by show (s.stack.drop 2).length+1=_;rw[List.length_drop]
theorem Zjj (a:Int)(s:St):(deed 17 a s).stack.length=s.stack.length-2+1:=by show (s.stack.drop 2).length+1=_;rw[List.length_drop]
theorem Zji (a:Int)(s:St):(deed 18 a s).stack.length=s.stack.length-2+1:=by show (s.stack.drop 2).length+1=_;rw[List.length_drop]
theorem Zjh (a:Int)(s:St):(deed 19 a s).stack.length=s.stack.length-1+1:=by show (s.stack.drop 1).length+1=_;rw[List.length_drop]
theorem Zjg (a:Int)(s:St):(deed 20 a s).stack.length=s.stack.length-2+1:=by show (s.stack.drop 2).length+1=_;rw[List.length_drop]
theorem Zjf (a:Int)(s:St):(deed 21 a s).stack.length=s.stack.length-2+1:=by show (s.stack.drop 2).length+1=_;rw[List.length_drop]
theorem Zje (a:Int)(s:St):(deed 22 a s).stack.length=s.stack.length-0+0:=rfl
theorem Zjd (a:Int)(s:St):(deed 23 a s).stack.length=s.stack.length-0+0:=rfl
theorem Zjc (a:Int)(s:St):(deed 24 a s).stack.length=s.stack.length-0+0:=rfl
theorem Zjb (a:Int)(s:St):(deed 25 a s).stack.length=s.stack.length-1+1:=by show (s.stack.drop 1).length+1=_;rw[List.length_drop]
theorem Zja (a:Int)(s:St):(deed 26 a s).stack.length=s.stack.length-2+0:=by show (s.stack.drop 2).length=_;exact List.length_drop
theorem Ziz (a:Int)(s:St):(deed 27 a s).stack.length=s.stack.length-1+1:=by show (s.stack.drop 1).length+1=_;rw[List.length_drop]
theorem Ziy (a:Int)(s:St):(deed 28 a s).stack.length=s.stack.length-2+0:=by show (s.stack.drop 2).length=_;exact List.length_drop
theorem Zix (a:Int)(s:St):(deed 29 a s).stack.length=s.stack.length-1+1:=by show (s.stack.drop 1).length+1=_;rw[List.length_drop]
theorem Ziw (a:Int)(s:St):(deed 30 a s).stack.length=s.stack.length-1+1:=by show (s.stack.drop 1).length+1=_;rw[List.length_drop]
theorem Ziv (a:Int)(s:St):(deed 31 a s).stack.length=s.stack.length-2+0:=by
 show (ite _ _ _:St).stack.length=_
 rw[Lr];split
 ·show (s.stack.drop 2).length=_;exact List.length_drop
 ·show (s.stack.drop 2).length=_;exact List.length_drop
theorem Ziu (a:Int)(s:St):(deed 32 a s).stack.length=s.stack.length-2+0:=by
 show (ite _ _ _:St).stack.length=_
 rw[Lr];split
 ·show (s.stack.drop 2).length=_;exact List.length_drop
 ·show (s.stack.drop 2).length=_;exact List.length_drop
theorem Zit (a:Int)(s:St):(deed 33 a s).stack.length=s.stack.length-2+0:=by
 show (ite _ _ _:St).stack.length=_
 rw[Lr];split
 ·show (s.stack.drop 2).length=_;exact List.length_drop
 ·show (s.stack.drop 2).length=_;exact List.length_drop
theorem Zis (a:Int)(s:St):(deed 34 a s).stack.length=s.stack.length-0+0:=rfl
theorem Zir (a:Int)(s:St):(deed 35 a s).stack.length=s.stack.length-0+0:=by show (cC s a).stack.length=_;rw[Oe];rfl
theorem Ziq (a:Int)(s:St):(deed 36 a s).stack.length=s.stack.length-1+0:=by
 show (ite _ _ _:St).stack.length=_
 rw[Lr];split
 ·rw[Oe];show (s.stack.drop 1).length=_;exact List.length_drop
 ·show (s.stack.drop 1).length=_;exact List.length_drop
theorem Zip (a:Int)(s:St):(deed 37 a s).stack.length=s.stack.length-0+0:=by show (call s a 1).stack.length=_;rw[Oo];rfl
theorem Zio (a:Int)(s:St):(deed 38 a s).stack.length=s.stack.length-1+0:=by show (call { s with stack:=s.stack.drop 1 } a _).stack.length=_;rw[Oo];show (s.stack.drop 1).length=_;exact List.length_drop
theorem Zin (a:Int)(s:St):(deed 39 a s).stack.length=s.stack.length-0+1:=rfl
theorem Ku (op a:Int)(s:St)(z:1≤op)(y:op≤39):(deed op a s).stack.length=s.stack.length-aO op+aV op:=by
 have x:op=1∨op=2∨op=3∨op=4∨op=5∨op=6∨op=7∨op=8∨op=9∨op=10∨op=11∨op=12∨op=13∨op=14∨op=15∨op=16∨op=17∨op=18∨op=19∨op=20∨op=21∨op=22∨op=23∨op=24∨op=25∨op=26∨op=27∨op=28∨op=29∨op=30∨op=31∨op=32∨op=33∨op=34∨op=35∨op=36∨op=37∨op=38∨op=39:=by omega
 rcases x with rfl|rfl|rfl|rfl|rfl|rfl|rfl|rfl|rfl|rfl|rfl|rfl|rfl|rfl|rfl|rfl|rfl|rfl|rfl|rfl|rfl|rfl|rfl|rfl|rfl|rfl|rfl|rfl|rfl|rfl|rfl|rfl|rfl|rfl|rfl|rfl|rfl|rfl|rfl
 ·exact nB a s
 ·exact nL a s
 ·exact mh a s
 ·exact nJ a s
 ·exact nh a s
 ·exact nD a s
 ·exact mZ a s
 ·exact nF a s
 ·exact nt a s
 ·exact Zjq a s
 ·exact Zjp a s
 ·exact Zjo a s
 ·exact Zjn a s
 ·exact Zjm a s
 ·exact Zjl a s
 ·exact Zjk a s
 ·exact Zjj a s
 ·exact Zji a s
 ·exact Zjh a s
 ·exact Zjg a s
 ·exact Zjf a s
 ·exact Zje a s
 ·exact Zjd a s
 ·exact Zjc a s
 ·exact Zjb a s
 ·exact Zja a s
 ·exact Ziz a s
 ·exact Ziy a s
 ·exact Zix a s
 ·exact Ziw a s
 ·exact Ziv a s
 ·exact Ziu a s
 ·exact Zit a s
 ·exact Zis a s
 ·exact Zir a s
 ·exact Ziq a s
 ·exact Zip a s
 ·exact Zio a s
 ·exact Zin a s
end Hd
namespace Hd
open Mc
def Ext (aL:Nat)(pl P:List Bd.Place):Prop :=
 (∀i:Nat,i≤aL→Bd.bk P i=Bd.bk pl i)∧∀i:Nat,(Bd.bk pl i).aR=true→(Bd.bk P i).aR=true∧(Bd.bk P i).aC=(Bd.bk pl i).aC∧(Bd.bk pl i).steps≤(Bd.bk P i).steps
structure kz (n:Nat) (fs:List Bd.aa) (P:List Bd.Place) (aU aM:Int) (aL:Nat) (x:Int×Int):Prop where
 al:Bd.bp n fs.length aL x=0
 kn:(Bd.bk P aL).aR=true→(Bd.ay fs (Bd.bk P aL) x).aU≤aU∧(Bd.ay fs (Bd.bk P aL) x).aM≤aM∧(x.1=38→(Bd.fn fs x.2).delta=0) ∧
  ∀t∈Bd.ways aL x,(Bd.bk P t).aR=true∧(Bd.bk P t).aC=(Bd.ay fs (Bd.bk P aL) x).aC∧(Bd.ay fs (Bd.bk P aL) x).steps≤(Bd.bk P t).steps
structure jL (n:Nat) (fs:List Bd.aa) (l:List (Int×Int)) (c:Bd.aa) (P:List Bd.Place):Prop where
 p0:(Bd.bk P 0).aR=true∧(Bd.bk P 0).aC=0∧(Bd.bk P 0).steps=0
 ok:∀(i:Nat) x,l[i]?=some x→kz n fs P c.aU c.aM i x
 de:c.delta=(Bd.bk P n).aC
 st:c.steps=(Bd.bk P n).steps
 n0:0≤c.aU
 k0:0≤c.aM
 n1:c.aU≤32
 k1:c.aM≤32
 s1:c.steps≤4096
theorem Th {pl:List Bd.Place}{t i:Nat}{q:Bd.Place}(h:t<pl.length):Bd.bk (pl.set t q) i=if i=t then q else Bd.bk pl i:=by
 unfold Bd.bk;rw[List.getD_eq_getElem?_getD,List.getD_eq_getElem?_getD,Int.toNat_natCast,List.getElem?_set];by_cases hi:i=t
 ·subst hi;simp[h]
 ·rw[if_neg (fun e=>hi e.symm),if_neg hi]
theorem fw {n k aL:Nat}{x:Int×Int}(h:Bd.bp n k aL x=0)(p:aL<n):∀t∈Bd.ways aL x,∃m:Nat,t=m∧aL<m∧m≤n:=by
 intro t y;unfold Bd.ways at y;simp only[List.mem_append]at y;rcases y with y|y
 ·split at y
  ·simp at y
  ·simp at y;exact⟨aL+1,by omega,by omega,by omega⟩
 ·split at y
  ·rename_i v;simp at y;unfold Bd.bp at h;split at h
   ·simp at h
   ·split at h
    ·simp at h
    ·rename_i u;have:0≤x.2∧x.2≤(n:Int)-1-aL:=by
      by_cases z:0≤x.2∧x.2≤(n:Int)-1-aL
      ·exact z
      ·exact absurd ⟨v,z⟩ u
     exact⟨(aL+1+x.2).toNat,by omega,by omega,by omega⟩
  ·simp at y
theorem marks {n:Nat}{e:Bd.mL}:∀(x:List Int) (pl:List Bd.Place),pl.length=n+1→(∀t∈x,∃m:Nat,t=m∧m≤n) →
  (x.foldl (Bd.mark e) pl).length=n+1 ∧
  (∀i:Nat,(i:Int) ∉ x→Bd.bk (x.foldl (Bd.mark e) pl) i=Bd.bk pl i) ∧
  (∀i:Nat,(i:Int)∈x→(Bd.bk (x.foldl (Bd.mark e) pl) i).aR=true∧(Bd.bk (x.foldl (Bd.mark e) pl) i).aC=e.aC∧e.steps≤(Bd.bk (x.foldl (Bd.mark e) pl) i).steps) ∧
  (∀i:Nat,(Bd.bk pl i).steps≤(Bd.bk (x.foldl (Bd.mark e) pl) i).steps):=by
 intro x
 induction x with
 |nil=>intro pl y _;exact⟨y,fun _ _=>rfl,fun i hi=>by simp at hi,fun _=>Int.le_refl _⟩
 |cons t r ih =>
  intro pl y v;obtain⟨m,rfl,b⟩:=v t (by simp);have u:m<pl.length:=by omega
  have am:Bd.mark e pl (m:Int)=pl.set m ⟨true,e.aC,max (Bd.bk pl m).steps e.steps⟩:=by unfold Bd.mark;rw[Int.toNat_natCast]
  obtain⟨a,k,q,s⟩:=ih (Bd.mark e pl m) (by rw[am];simpa using y) (fun t h=>v t (by simp[h]));simp only[List.foldl_cons];refine⟨a,fun i hi=>?_,fun i hi=>?_,fun i=>?_⟩
  ·simp only[List.mem_cons,not_or]at hi;rw[k i hi.2,am,Th u,if_neg (by omega)]
  ·by_cases z:(i:Int)∈r
   ·exact q i z
   ·have p:i=m:=by
     simp only[List.mem_cons]at hi;rcases hi with h|h
     ·omega
     ·exact absurd h z
    rw[k i z,am,Th u,if_pos p];exact⟨rfl,rfl,Int.le_max_right _ _⟩
  ·refine Int.le_trans ?_ (s i);rw[am,Th u];split
   ·rename_i h;subst h;exact Int.le_max_left _ _
   ·exact Int.le_refl _
theorem Xl (n:Nat)(fs:List Bd.aa):∀(r:List (Int×Int)) (aL:Nat) (s:Bd.St) (c:Bd.aa),Bd.rest n fs r aL s=(c,0,0)→s.pl.length=n+1→aL+r.length=n →
  ∃P,Ext aL s.pl P∧(∀(i:Nat) x,r[i]?=some x→kz n fs P c.aU c.aM (aL+i) x)∧c.delta=(Bd.bk P n).aC∧c.steps=(Bd.bk P n).steps∧s.aU≤c.aU∧s.aM≤c.aM∧c.delta=(Bd.bk P n).aC:=by
 intro r
 induction r with
 |nil =>
  intro aL s c h U w;unfold Bd.rest at h;simp at h w;subst h;refine⟨s.pl,⟨fun _ _=>rfl,fun i hi=>⟨hi,rfl,Int.le_refl _⟩⟩,fun i x S=>by simp at S,?_,?_,Int.le_refl _,Int.le_refl _,?_⟩ <;> simp only[w]
 |cons x r ih =>
  intro aL s c h U w;unfold Bd.rest at h;simp at w;split at h
  ·rename_i I;simp at h;exact absurd h.2.2 I
  ·rename_i z;have z:(Bd.look n fs s aL x).1=0:=by omega
   have L:aL<n:=by omega
   unfold Bd.look at h z;split at z
   ·rename_i H;exact absurd z H
   ·rename_i H;rw[if_neg H]at h;have A:Bd.bp n fs.length aL x=0:=by omega
    have Y:=fw A L;split at z
    ·rename_i f;rw[if_pos f]at h;obtain⟨P,⟨l,a⟩,b,K,Z,V,X,Q⟩:=ih (aL+1) s c (by simpa using h) U (by omega);refine⟨P,⟨fun i hi=>l i (by omega),a⟩,fun i y u=>?_,K,Z,V,X,Q⟩;cases i with
     |zero =>
      simp at u;subst u;refine⟨A,fun g=>?_⟩;rw[Nat.add_zero,l aL (by omega),f]at g;cases g
     |succ i =>
      have:=b i y (by simpa using u);rw[show aL+(i+1)=aL+1+i by omega];exact this
    ·rename_i f;rw[if_neg f]at h;have g:(Bd.bk s.pl aL).aR=true:=by simpa using f
     simp only at h z;generalize N:Bd.ay fs (Bd.bk s.pl aL) x=e at *;split at z
     ·rename_i R;exact absurd z R
     ·rename_i R;rw[if_neg R]at h;have v:Bd.dR fs s.pl (max s.aU e.aU) (max s.aM e.aM) aL x e=0:=by omega
      have B:(x.1=38→(Bd.fn fs x.2).delta=0)∧Bd.ea s.pl aL x e.aC=true:=by
       unfold Bd.dR at v;split at v
       ·simp at v
       ·rename_i q1;split at v
        ·simp at v
        ·split at v
         ·simp at v
         ·rename_i q2;exact⟨fun S=>by
           by_cases F:(Bd.fn fs x.2).delta=0
           ·exact F
           ·exact absurd ⟨S,F⟩ q1,by simpa using q2⟩
      have J:∀t∈Bd.ways aL x,(Bd.bk s.pl t).aR=true→(Bd.bk s.pl t).aC=e.aC:=fun t k g=>by
       have:=List.all_eq_true.1 B.2 t k;unfold Bd.gL at this;rw[g]at this
       simpa using this
      obtain⟨M,C,D,W⟩:=marks (e:=e) (Bd.ways aL x) s.pl U (fun t k=>by obtain⟨m,q,_,q2⟩:=Y t k;exact⟨m,q,q2⟩);generalize hz:(Bd.ways aL x).foldl (Bd.mark e) s.pl=O at *;obtain⟨P,⟨l,a⟩,b,K,Z,V,X,Q⟩:=ih (aL+1) ⟨O,max s.aU e.aU,max s.aM e.aM⟩ c (by simpa using h) M (by omega);simp only at l a V X;have T:∀i:Nat,i≤aL→(i:Int) ∉ Bd.ways aL x:=fun i hi j=>by obtain⟨m,q,q1,_⟩:=Y i j;omega
      have G:Ext aL s.pl P:=by
       refine⟨fun i hi=>by rw[l i (by omega),C i (T i hi)],fun i hi=>?_⟩;by_cases j:(i:Int)∈Bd.ways aL x
       ·obtain⟨k1,k2,E⟩:=D i j;obtain⟨o,p,d⟩:=a i k1;exact⟨o,by rw[p,k2,J i j hi],Int.le_trans (W i) d⟩
       ·have q:=C i j;obtain⟨o,p,d⟩:=a i (by rw[q];exact hi);rw[q]at p d;exact⟨o,p,d⟩
      refine⟨P,G,fun i y u=>?_,K,Z,by omega,by omega,Q⟩;cases i with
      |zero =>
       simp at u;subst u;rw[Nat.add_zero];refine⟨A,fun _=>?_⟩;rw[G.1 aL (Nat.le_refl _),N];refine⟨by omega,by omega,B.1,fun t k=>?_⟩;obtain⟨m,rfl,_,_⟩:=Y t k;obtain⟨k1,k2,E⟩:=D m k;obtain⟨o,p,d⟩:=a m k1;exact⟨o,by rw[p,k2],Int.le_trans E d⟩
      |succ i =>
       have:=b i y (by simpa using u);rw[show aL+(i+1)=aL+1+i by omega];exact this
theorem gq (n:Nat)(fs:List Bd.aa)(u:fs.all Bd.dB=true):∀(r:List (Int×Int)) (aL:Int) (s:Bd.St) (c:Bd.aa),Bd.rest n fs r aL s=(c,0,0)→Bd.Ok n s→c.aU≤32∧c.aM≤32∧0≤c.steps∧c.steps≤4096∧c.delta≤32:=by
 intro r
 induction r with
 |nil =>
  intro aL s c h y;unfold Bd.rest at h;simp at h;have z:=Bd.jb y aL;unfold Bd.kN at z;have p:=y.aU;have k:=y.aM;subst h;exact⟨p.2,k.2,z.2.2.1,z.2.2.2,z.2.1⟩
 |cons x r ih =>
  intro aL s c h y;unfold Bd.rest at h;split at h
  ·rename_i v;simp at h;exact absurd h.2.2 v
  ·rename_i q;exact ih _ _ c h (Bd.jg u y (by omega))
theorem eU {l:List (Int×Int)} {fs:List Bd.aa} {c:Bd.aa} (h:Bd.aA l fs=(c,0,0)):∃P,jL l.length fs l c P:=by
 unfold Bd.aA at h;split at h
 ·rename_i k;obtain⟨P,⟨s,e⟩,b,u,v,p,a,_⟩:=Xl l.length fs l 0 (Bd.start l.length) c h (by simp[Bd.start]) (by simp);obtain⟨z,y,d,r,_⟩:=gq l.length fs k l 0 (Bd.start l.length) c h (Bd.eX _);refine⟨P,?_,fun i x q=>by have:=b i x q;rwa [Nat.zero_add]at this,u,v,p,a,z,y,r⟩;have:=s 0 (Nat.le_refl _);rw[show ((0:Nat):Int)=0 from rfl]at this;rw[this];exact⟨rfl,rfl,rfl⟩
 ·simp at h
def jz (s t:St):Prop:=s.ai=false∧∃X,t = { s with aD:=X }∧settle X=settle s.aD
theorem jz.refl {s:St}(h:s.ai=false):jz s s:=⟨h,s.aD,rfl,rfl⟩
theorem jz.trans {s t u:St}(h:jz s t)(k:jz t u):jz s u:=by
 obtain⟨x,X,rfl,y⟩:=h;obtain⟨_,Y,rfl,z⟩:=k;exact⟨x,Y,rfl,z.trans y⟩
theorem Zft {s t:St}(h:jz s t):next t=next s:=by
 obtain⟨x,X,rfl,y⟩:=h;unfold next;simp only[x,y];rfl
theorem Zes {s t:St}(h:jz s t):Mc.step t=Mc.step s:=by unfold Mc.step;rw[Zft h]
def Goes (k:Nat)(s t:St):Prop:=∃u,Mc.steps k s=(u,true)∧jz u t
theorem Ju:∀(k j:Nat)(s u:St),Mc.steps k s=(u,true)→Mc.steps (k+j) s=Mc.steps j u
 |0,j,s,u,h=>by
  rw[Mc.steps]at h
  injection h with y _
  rw[y,Nat.zero_add]
 |k+1,j,s,u,h=>by
  rw[show k+1+j=(k+j)+1 by omega];rw[Mc.steps]at h ⊢;rcases x:Mc.step s with⟨s',b⟩
  rw[x]at h;cases b with
  |true=>exact Ju k j s' u h
  |false=>simp at h
theorem Goes.trans {k j:Nat}{s t v:St}(h:Goes k s t)(g:Goes j t v):Goes (k+j) s v:=by
 obtain⟨u,q,p⟩:=h;obtain⟨x,y,z⟩:=g;cases j with
 |zero =>
  rw[Mc.steps]at y
  injection y with e _
  subst e;exact⟨u,q,p.trans z⟩
 |succ j =>
  refine⟨x,?_,z⟩;rw[Ju k (j+1) s u q,←y,Mc.steps,Mc.steps,Zes p]
theorem Goes.iS {k:Nat}{s t v:St}(h:Goes k s t)(g:jz t v):Goes k s v:=by
 obtain⟨u,y,x⟩:=h;exact⟨u,y,x.trans g⟩
theorem Goes.du {s t:St} (h:Mc.step s=(t,true)) (x:t.ai=false):Goes 1 s t:=⟨t,by rw[Mc.steps,h];rfl,jz.refl x⟩
theorem Zdi {p:Prop}[Decidable p](a b:Nat):((if p then a else b:Nat):Int)=if p then(a:Int) else(b:Int):=by split <;> rfl
theorem Oy (op:Int):(aO op:Int)=Bd.aO op:=by unfold aO Bd.aO;simp only[Zdi];rfl
theorem Mw (op:Int):(aV op:Int)=Bd.aV op:=by unfold aV Bd.aV;simp only[Zdi];rfl
theorem Vk {s:St} {l:List (Int×Int)} {aL m:Nat} {r:List Fm} {x:Int×Int} (k:s.aD=⟨l,aL,m⟩::r) (y:s.ai=false) (u:l[aL]?=some x)
  (d:1≤x.1∧x.1≤39) (c:aO x.1≤s.stack.length) (f:s.stack.length+aV x.1≤32+aO x.1) (p:(x.1=35∨x.1=36)→0≤x.2∧x.2≤(l.length-1-aL:Int)) (a:(x.1=37∨x.1=38)→0≤x.2∧x.2<s.funcs.length∧r.length+1≤20) :
  Mc.step s=({ deed x.1 x.2 { s with aD:=⟨l,aL+1,m⟩::r,br:=0,ai:=false } with steps:=(deed x.1 x.2 { s with aD:=⟨l,aL+1,m⟩::r,br:=0,ai:=false }).steps+1,aM:=max (deed x.1 x.2 { s with aD:=⟨l,aL+1,m⟩::r,br:=0,ai:=false }).aM (deed x.1 x.2 { s with aD:=⟨l,aL+1,m⟩::r,br:=0,ai:=false }).stack.length },true):=by
 obtain⟨v,e⟩:=List.getElem?_eq_some_iff.1 u;have z:Fv { s with aD:=⟨l,aL,m⟩::r } x.1 x.2 (l.length-1-aL:Int)=0:=by
  unfold Fv;rw[if_neg (by omega),if_neg (by simp only;omega),if_neg ?_,if_neg ?_]
  ·rintro⟨q,q1⟩;have:=a q;simp only[List.length_cons]at q1;omega
  ·rintro⟨q,q1⟩;have:=p q;omega
 have b:next s=({ s with aD:=⟨l,aL,m⟩::r,br:=0,ai:=decide ((0:Int)≠0) },some x):=by
  rw[y]at z;unfold next;rw[y];simp only[Bool.false_eq_true,if_false];rw[k,Qp v];simp only;rw[show l.getD aL (0,0)=x by rw[List.getD_eq_getElem?_getD,u];rfl,z];simp only[if_true]
 unfold Mc.step;rw[b];rfl
structure fv (s t:St) (k:Nat) (X:List Fm) (bm:Int):Prop where
 fr:t.aD=X
 en:t.ai=false
 er:t.br=0
 fu:t.funcs=s.funcs
 st:t.steps=s.steps+k
 pk:(t.aM:Int)≤max (s.aM:Int) bm
def nP (F:List (List (Int×Int))) (j:Nat) (c:Bd.aa):Prop :=
 ∀(s:St) (m:Nat) (r:List Fm),s.aD=⟨F.getD j [],0,m⟩::r→s.ai=false→s.br=0→s.funcs=F→c.aU≤s.stack.length→s.stack.length+c.aM≤32→r.length+1+j≤21 →
  ∃k t,Goes k s t∧fv s t k (⟨F.getD j [],(F.getD j []).length,m⟩::r) (s.stack.length+c.aM)∧(t.stack.length:Int)=s.stack.length+c.delta∧(k:Int)≤c.steps
theorem fv.trans {s t u:St}{k j:Nat}{X Y:List Fm}{a b c:Int}(h:fv s t k X a)(g:fv t u j Y b)(x:a≤c)(v:b≤c):fv s u (k+j) Y c :=
 ⟨g.fr,g.en,g.er,g.fu.trans h.fu,by rw[g.st,h.st];omega,by have z:=h.pk;have y:=g.pk;omega⟩
theorem fv.left {s t:St}{k:Nat}{X Y:List Fm}{a:Int}(h:fv s t k X a)(x:settle Y=settle X):jz t { t with aD:=Y }∧fv s { t with aD:=Y } k Y a :=
 ⟨⟨h.en,Y,rfl,by rw[h.fr,x]⟩,rfl,h.en,h.er,h.fu,h.st,h.pk⟩
theorem Zkp {F:List (List (Int×Int))} {j:Nat} {c:Bd.aa} (e:nP F j c) (U:c.delta=0) (w:0≤c.steps):∀(m:Nat) (s:St) (r:List Fm),s.aD=⟨F.getD j [],0,m⟩::r→s.ai=false→s.br=0→s.funcs=F→c.aU≤s.stack.length→s.stack.length+c.aM≤32→r.length+1+j≤21 →
  ∃k t,Goes k s t∧fv s t k r (s.stack.length+c.aM)∧t.stack.length=s.stack.length∧(k:Int)≤(m+1)*c.steps:=by
 intro m
 induction m with
 |zero =>
  intro s r u z p x v q y;obtain⟨k,t,g,o,K,f⟩:=e s 0 r u z p x v q y;obtain⟨a,b⟩:=o.left (Y:=r) dg.symm;exact⟨k,_,g.iS a,b,by simp only;omega,by simpa using f⟩
 |succ m ih =>
  intro s r u z p x v q y;obtain⟨k,t,g,o,K,f⟩:=e s (m+1) r u z p x v q y;have d:(((m+1:Nat):Int)+1)*c.steps=((m:Int)+1)*c.steps+c.steps:=by rw[Int.add_mul];simp
  by_cases i:0<(F.getD j []).length
  ·obtain⟨a,b⟩:=o.left (Y:=⟨F.getD j [],0,m⟩::r) (Ky i).symm;obtain⟨n,t',l,H,X,V⟩:=ih { t with aD:=⟨F.getD j [],0,m⟩::r } r rfl o.en o.er (o.fu.trans x) (by simp only;omega) (by simp only;omega) y;exact⟨k+n,t',(g.iS a).trans l,b.trans H (Int.le_refl _) (by simp only;omega),by rw[X];simp only;omega,by rw[d];omega⟩
  ·have Z:F.getD j []=[]:=List.length_eq_zero_iff.1 (by omega);rw[Z]at o;obtain⟨a,b⟩:=o.left (Y:=r) e_.symm;have:(0:Int)≤((m:Int)+1)*c.steps:=Int.mul_nonneg (by omega) w;exact⟨k,_,g.iS a,b,by simp only;omega,by rw[d];omega⟩
theorem bR {fs:List Bd.aa}{p:Bd.Place}{x:Int×Int} (h:¬ (x.1=37∨x.1=38)):Bd.ay fs p x=⟨Bd.aO x.1-p.aC,p.aC-Bd.aO x.1+Bd.aV x.1,p.aC-Bd.aO x.1+Bd.aV x.1,p.steps+1⟩:=by
 unfold Bd.ay;simp only;rw[if_neg]
 simpa [Bd.ao]using h
theorem bT {fs:List Bd.aa}{p:Bd.Place}{x:Int×Int}(h:x.1=37∨x.1=38):Bd.ay fs p x =
  ⟨max (Bd.aO x.1-p.aC) ((Bd.fn fs x.2).aU-(p.aC-Bd.aO x.1+Bd.aV x.1)),max (max (p.aC-Bd.aO x.1+Bd.aV x.1) (p.aC-Bd.aO x.1+Bd.aV x.1+(Bd.fn fs x.2).aM)) (p.aC-Bd.aO x.1+Bd.aV x.1+(Bd.fn fs x.2).delta),p.aC-Bd.aO x.1+Bd.aV x.1+(Bd.fn fs x.2).delta,p.steps+1+(if x.1=38 then 16 else 1)*(Bd.fn fs x.2).steps⟩:=by
 unfold Bd.ay;simp only;rw[if_pos]
 simpa [Bd.ao]using h
theorem cE {n z aL:Int}{x:Int×Int}(h:Bd.bp n z aL x=0):(1≤x.1∧x.1≤39)∧((x.1=35∨x.1=36)→0≤x.2∧x.2≤n-1-aL)∧((x.1=37∨x.1=38)→0≤x.2∧x.2<z):=by
 unfold Bd.bp at h;split at h
 ·simp at h
 ·rename_i v;split at h
  ·simp at h
  ·rename_i u;split at h
   ·simp at h
   ·rename_i k;refine⟨Classical.not_not.1 v,fun q=>?_,fun q=>?_⟩
    ·have:Bd.az x.1=true:=by simpa [Bd.az]using q
     exact Classical.not_not.1 fun y=>u ⟨this,y⟩
    ·have:Bd.ao x.1=true:=by simpa [Bd.ao]using q
     exact Classical.not_not.1 fun y=>k ⟨this,y⟩
theorem Zax {F:List (List (Int×Int))} {l:List (Int×Int)} {fs:List Bd.aa} {c:Bd.aa} {P:List Bd.Place} (D:jL l.length fs l c P) (hF:fs.length≤F.length) (hg:∀j u,fs[j]?=some u→nP F j u∧0≤u.steps∧0≤u.aM) :
  ∀(d aL:Nat) (s:St) (m:Nat) (r:List Fm) (z:Int),aL+d=l.length→s.aD=⟨l,aL,m⟩::r→s.ai=false→s.br=0→s.funcs=F→(Bd.bk P aL).aR=true→(s.stack.length:Int)=z+(Bd.bk P aL).aC→c.aU≤z→z+c.aM≤32→r.length+1+fs.length≤21 →
  ∃k t,Goes k s t∧fv s t k (⟨l,l.length,m⟩::r) (z+c.aM)∧(t.stack.length:Int)=z+c.delta∧(Bd.bk P aL).steps+k≤c.steps:=by
 intro d
 induction d using Nat.strongRecOn with
 |_ d ih =>
 intro aL s m r z hd b2 T a1 w hk hO hn hp hr;by_cases g1:d=0
 ·have e5:aL=l.length:=by omega
  subst e5;refine⟨0,s,⟨s,rfl,jz.refl T⟩,⟨b2,T,a1,rfl,rfl,by omega⟩,?_,?_⟩
  ·rw[hO,D.de]
  ·rw[D.st];omega
 ·have h0:aL<l.length:=by omega
  obtain⟨x,hx⟩:∃x,l[aL]?=some x:=⟨l[aL],List.getElem?_eq_getElem h0⟩;have E:=D.ok aL x hx;obtain⟨S,M,a3⟩:=cE E.al;obtain⟨n,e,b3,b4⟩:=E.kn hk;have ht:=Oy x.1;have hl:=Mw x.1;have hw:=fw E.al h0;have c1:aO x.1≤s.stack.length:=by
   by_cases y:x.1=37∨x.1=38
   ·rw[bT y]at n;simp only at n;omega
   ·rw[bR y]at n;simp only at n;omega
  have c2:s.stack.length+aV x.1≤32+aO x.1:=by
   by_cases y:x.1=37∨x.1=38
   ·rw[bT y]at e;simp only at e;omega
   ·rw[bR y]at e;simp only at e;omega
  have on:=Vk b2 T hx S c1 c2 M (fun q=>by have:=a3 q;rw[w];omega);have s2:=Ku x.1 x.2 { s with aD:=⟨l,aL+1,m⟩::r,br:=0,ai:=false } S.1 S.2;have e1:=Nb x.1 x.2 { s with aD:=⟨l,aL+1,m⟩::r,br:=0,ai:=false };obtain⟨m1,O,m3,m4,m5⟩:=e1;simp only at s2 m1 O m3 m4 m5;generalize K:deed x.1 x.2 { s with aD:=⟨l,aL+1,m⟩::r,br:=0,ai:=false } = t at *;have C:=Goes.du on O;generalize i:({ t with steps:=t.steps+1,aM:=max t.aM t.stack.length }:St)=s1 at *;have H:s1.aD=t.aD:=by rw[←i]
  have b:s1.stack=t.stack:=by rw[←i]
  have e3:s1.ai=false:=by rw[←i];exact O
  have N:s1.br=0:=by rw[←i];exact m3
  have J:s1.funcs=F:=by rw[←i];exact m1.trans w
  have e6:s1.steps=s.steps+1:=by rw[←i,←m4]
  have e7:s1.aM=max s.aM t.stack.length:=by rw[←i,←m5]
  have Q:∀X,s1.aD=X→fv s s1 1 X (z+c.aM):=fun X hX=>by
   refine⟨hX,e3,N,J.trans w.symm,e6,?_⟩;have:(t.stack.length:Int)≤z+c.aM:=by
    by_cases y:x.1=37∨x.1=38
    ·rw[bT y]at e;simp only at e;omega
    ·rw[bR y]at e;simp only at e;omega
   omega
  have R:∀(k:Nat) (U:St) (q:Nat),Goes k s U→fv s U k (⟨l,q,m⟩::r) (z+c.aM)→(q:Int)∈Bd.ways aL x→(U.stack.length:Int)=z+(Bd.ay fs (Bd.bk P aL) x).aC→(Bd.bk P aL).steps+k≤(Bd.ay fs (Bd.bk P aL) x).steps →
    ∃k t,Goes k s t∧fv s t k (⟨l,l.length,m⟩::r) (z+c.aM)∧(t.stack.length:Int)=z+c.delta∧(Bd.bk P aL).steps+k≤c.steps:=by
   intro k U q g o hq f1 e4;obtain⟨q',m2,q1,q2⟩:=hw q hq;obtain⟨w1,w2,w3⟩:=b4 q hq;obtain⟨k',t',g',o',Z,f2⟩:=ih (l.length-q) (by omega) q U m r z (by omega) o.fr o.en o.er (o.fu.trans w) w1 (by rw[f1,w2]) hn hp hr;exact⟨k+k',t',g.trans g',o.trans o' (Int.le_refl _) (Int.le_refl _),Z,by omega⟩
  by_cases y:x.1=37∨x.1=38
  ·obtain⟨q1,q2⟩:=a3 y;obtain⟨j,f⟩:∃j:Nat,x.2=j:=⟨x.2.toNat,by omega⟩;have b1:j<fs.length:=by omega
   obtain⟨u,hc⟩:∃u,fs[j]?=some u:=⟨fs[j],List.getElem?_eq_getElem b1⟩;obtain⟨hG,cj,x1⟩:=hg j u hc;have e2:Bd.fn fs x.2=u:=by unfold Bd.fn;rw[f,List.getD_eq_getElem?_getD,Int.toNat_natCast,hc];rfl
   have I:((aL+1:Nat):Int)∈Bd.ways aL x:=by
    unfold Bd.ways;rw[if_neg (by omega)];simp
   have v:=bT (fs:=fs) (p:=Bd.bk P aL) y;rw[e2]at v;rw[v]at n e;simp only at n e;rcases y with y|y
   ·have o1:aO x.1=0∧aV x.1=0:=by rw[y];exact⟨rfl,rfl⟩
    have a:s1.aD=⟨F.getD j [],0,0⟩::⟨l,aL+1,m⟩::r:=by
     rw[H,←K,y,f]
     show (call _ (j:Int) 1).aD=_
     unfold call;rw[if_pos (by omega)];simp only[Int.toNat_natCast,w];rfl
    obtain⟨k1,t1,W,G,Z,f2⟩:=hG s1 0 _ a e3 N J (by rw[b];omega) (by rw[b];omega) (by simp only[List.length_cons];omega);obtain⟨l1,l2⟩:=G.left (Y:=⟨l,aL+1,m⟩::r) dg.symm;refine R (1+k1) _ (aL+1) (C.trans (W.iS l1)) ((Q _ rfl).trans l2 (Int.le_refl _) (by rw[b];omega)) I (by rw[v];simp only;rw[Z,b];omega) ?_;rw[v];simp only;rw[if_neg (by omega)];omega
   ·have o1:aO x.1=1∧aV x.1=0:=by rw[y];exact⟨rfl,rfl⟩
    have hj:u.delta=0:=by have:=b3 y;rwa [e2]at this
    have a:s1.aD=if 0<min (s.stack.getD 0 0) 16 then⟨F.getD j [],0,(min (s.stack.getD 0 0) 16-1).toNat⟩::⟨l,aL+1,m⟩::r else⟨l,aL+1,m⟩::r:=by
     rw[H,←K,y,f]
     show (call _ (j:Int) (min (s.stack.getD 0 0) 16)).aD=_
     unfold call;split
     ·simp only[Int.toNat_natCast,w]
     ·rfl
    by_cases hm:0<min (s.stack.getD 0 0) 16
    ·rw[if_pos hm]at a;generalize x0:(min (s.stack.getD 0 0) 16-1).toNat=L at *;have mm:L≤15:=by omega
     obtain⟨k1,t1,W,G,Z,f2⟩:=Zkp hG hj cj L s1 _ a e3 N J (by rw[b];omega) (by rw[b];omega) (by simp only[List.length_cons];omega);have a2:((L:Int)+1)*u.steps≤16*u.steps:=Int.mul_le_mul_of_nonneg_right (by omega) cj;refine R (1+k1) _ (aL+1) (C.trans W) ((Q _ rfl).trans G (Int.le_refl _) (by rw[b];omega)) I (by rw[v];simp only;rw[Z,b];omega) ?_;rw[v];simp only;rw[if_pos y];omega
    ·rw[if_neg hm]at a;refine R 1 s1 (aL+1) C (Q _ a) I (by rw[v];simp only;rw[b];omega) ?_;rw[v];simp only;rw[if_pos y];omega
  ·have v:=bR (fs:=fs) (p:=Bd.bk P aL) y;have A:∀q:Nat,s1.aD=⟨l,q,m⟩::r→(q:Int)∈Bd.ways aL x→∃k t,Goes k s t∧fv s t k (⟨l,l.length,m⟩::r) (z+c.aM)∧(t.stack.length:Int)=z+c.delta∧(Bd.bk P aL).steps+k≤c.steps:=fun q h1 h2 =>
    R 1 s1 q C (Q _ h1) h2 (by rw[v];simp only;rw[b];omega) (by rw[v];simp only;omega)
   by_cases B:x.1=35
   ·obtain⟨j,f⟩:∃j:Nat,x.2=j:=⟨x.2.toNat,by have:=M (.inl B);omega⟩;refine A (aL+1+j) ?_ ?_
    ·rw[H,←K,B,f];rfl
    ·unfold Bd.ways;rw[B,f];simp[Bd.az]
   ·by_cases V:x.1=36
    ·obtain⟨j,f⟩:∃j:Nat,x.2=j:=⟨x.2.toNat,by have:=M (.inr V);omega⟩;have a:s1.aD=if s.stack.getD 0 0=0 then⟨l,aL+1+j,m⟩::r else⟨l,aL+1,m⟩::r:=by
      rw[H,←K,V,f]
      show (ite (s.stack.getD 0 0=0) _ _:St).aD=_
      split <;> rfl
     by_cases hz:s.stack.getD 0 0=0
     ·rw[if_pos hz]at a;refine A _ a ?_;unfold Bd.ways;rw[V,f];simp[Bd.az]
     ·rw[if_neg hz]at a;refine A _ a ?_;unfold Bd.ways;rw[V];simp
    ·refine A (aL+1) ?_ ?_
     ·rw[H,←K,Nc x.1 x.2 _ S.1 (by omega)]
     ·unfold Bd.ways;rw[if_neg B];simp
theorem Lu {l:List (Int×Int)} {fs:List Bd.aa} {c:Bd.aa} (h:Bd.aA l fs=(c,0,0)):0≤c.steps:=by
 unfold Bd.aA at h;split at h
 ·rename_i x;exact(gq l.length fs x l 0 (Bd.start l.length) c h (Bd.eX _)).2.2.1
 ·simp at h
theorem Zdg {F:List (List (Int×Int))} {fs:List Bd.aa} {l:List (Int×Int)} {c:Bd.aa} (h:Bd.aA l fs=(c,0,0)) (u:F[fs.length]?=some l) (a:∀j x,fs[j]?=some x→nP F j x∧0≤x.steps∧0≤x.aM):nP F fs.length c∧0≤c.steps∧0≤c.aM:=by
 obtain⟨P,y⟩:=eU h;have K:fs.length<F.length:=(List.getElem?_eq_some_iff.1 u).1;have H:F.getD fs.length []=l:=by rw[List.getD_eq_getElem?_getD,u];rfl
 refine⟨fun s m r z p i b d n X=>?_,Lu h,y.k0⟩;rw[H]at z ⊢;obtain⟨f,q,v⟩:=y.p0;obtain⟨k,t,g,o,w,e⟩:=Zax y (by omega) a l.length 0 s m r s.stack.length (by omega) z p i b f (by rw[show ((0:Nat):Int)=0 from rfl,q];omega) d n (by omega);rw[show ((0:Nat):Int)=0 from rfl,v]at e;exact⟨k,t,g,o,w,by omega⟩
theorem Rn (F:List (List (Int×Int))):∀(ll:List (List (Int×Int))) (i:Int) (cs:List Bd.aa),F.drop cs.length=ll→cs.length≤F.length→(∀j x,cs[j]?=some x→nP F j x∧0≤x.steps∧0≤x.aM)→(Bd.funcsGo ll i cs).2.2=0 →
  (Bd.funcsGo ll i cs).1.length=F.length∧∀j x,(Bd.funcsGo ll i cs).1[j]?=some x→nP F j x∧0≤x.steps∧0≤x.aM:=by
 intro ll
 induction ll with
 |nil =>
  intro i cs a K q _;unfold Bd.funcsGo;have:=congrArg List.length a;simp only[List.length_drop,List.length_nil]at this;exact⟨by simp only;omega,q⟩
 |cons l r ih =>
  intro i cs a K q z;unfold Bd.funcsGo at z ⊢;split at z
  ·rename_i g;simp only at z;exact absurd z g
  ·rename_i d;rw[if_neg d];rcases u:Bd.aA l cs with⟨c,m,e⟩
   rw[u]at d z;simp only at d z ⊢;have H:e=0:=by omega
   subst H;have hi:m=0:=by
    unfold Bd.aA at u;split at u
    ·have key:∀(n:Nat) (k:List (Int×Int)) (aL:Int) (s:Bd.St),(Bd.rest n cs k aL s).2.2=0→(Bd.rest n cs k aL s).2.1=0:=by
      intro n k
      induction k with
      |nil=>intro aL s _;rfl
      |cons y k ih2 =>
       intro aL s p;unfold Bd.rest at p ⊢;split at p
       ·rename_i b;simp only at p;exact absurd p b
       ·rename_i b;rw[if_neg b];exact ih2 _ _ p
     have:=key l.length l 0 (Bd.start l.length) (by rw[u]);rw[u]at this;exact this
    ·simp at u
   subst hi;have f:F[cs.length]?=some l:=by
    have:(F.drop cs.length)[0]?=some l:=by rw[a];rfl
    simpa using this
   have X:cs.length<F.length:=(List.getElem?_eq_some_iff.1 f).1;have o:=Zdg u f q;refine ih (i+1) (cs++[c]) ?_ (by simp;omega) (fun j x v=>?_) z
   ·rw[List.length_append,List.length_singleton,←List.drop_drop,a];rfl
   ·rw[List.getElem?_append]at v;split at v
    ·exact q j x v
    ·rename_i Y;have w:j-cs.length=0:=by
      have:=(List.getElem?_eq_some_iff.1 v).1;simp at this;omega
     rw[w]at v;simp at v;subst v;have:j=cs.length:=by omega
     subst this;exact o
theorem Vo {s:St}(h:s.ai=false) (x:settle s.aD=[]):next s=({ s with aD:=[],ai:=true },none):=by
 unfold next;rw[h,x];rfl
theorem holds {ll:List (List (Int×Int))} {l:List (Int×Int)} {c:Bd.aa} (h:Bd.program ll l=(c,0)) {s:St} (R:s.aD=[⟨l,0,0⟩]) (J:s.ai=false) (C:s.br=0) (hP:s.funcs=ll) (Q:s.stack=[]) (cj:s.steps=0) (rr:s.aM=0) :
  (Mc.run c.steps.toNat s).br=0∧((Mc.run c.steps.toNat s).steps:Int)≤c.steps∧((Mc.run c.steps.toNat s).aM:Int)≤c.aM∧((Mc.run c.steps.toNat s).stack.length:Int)=c.delta∧c.steps≤4096∧c.aM≤32∧0≤c.steps:=by
 unfold Bd.program at h;split at h
 ·rename_i d;simp at h;exact absurd h.2 d
 ·rename_i g;have M:(Bd.funcs ll).1.length=ll.length∧ll.length≤20∧∀j p,(Bd.funcs ll).1[j]?=some p→nP ll j p∧0≤p.steps∧0≤p.aM:=by
   unfold Bd.funcs at g ⊢;split at g
   ·simp at g
   ·rename_i N;rw[if_neg N];obtain⟨a,b⟩:=Rn ll ll 0 [] rfl (by simp) (fun j p i=>by simp at i) (by omega);exact⟨a,by omega,b⟩
  obtain⟨f1,f2,f3⟩:=M;generalize (Bd.funcs ll).1=cs at *;unfold Bd.fp at h;split at h
  ·rename_i d;simp at h;exact absurd h.2 d
  ·rename_i K;split at h
   ·simp at h
   ·rename_i U;rcases x:Bd.aA l cs with⟨z,i2,e⟩
    rw[x]at K h U;simp only at K U h;have he:e=0:=by omega
    injection h with E _
    subst E;subst he;have m:Bd.aA l cs=(z,0,0):=by
     unfold Bd.aA at x ⊢;split at x
     ·rename_i hm;rw[if_pos hm];have key:∀(n:Nat) (q:List (Int×Int)) (aL:Int) (s:Bd.St),(Bd.rest n cs q aL s).2.2=0→(Bd.rest n cs q aL s).2.1=0:=by
       intro n q
       induction q with
       |nil=>intro aL s _;rfl
       |cons y q ih2 =>
        intro aL s r;unfold Bd.rest at r ⊢;split at r
        ·rename_i f;simp only at r;exact absurd r f
        ·rename_i f;rw[if_neg f];exact ih2 _ _ r
      have:=key l.length l 0 (Bd.start l.length) (by rw[x]);rw[x]at this;simp only at this;rw[x,this]
     ·simp at x
    obtain⟨P,v⟩:=eU m;have A:=Lu m;obtain⟨O,S,V⟩:=v.p0;obtain⟨k,t,⟨u,Y,F⟩,o,e1,I⟩:=Zax v (by omega) f3 l.length 0 s 0 [] 0 (by omega) R J C hP O (by rw[show ((0:Nat):Int)=0 from rfl,S,Q];rfl) (by omega) (by have:=v.k1;omega) (by simp only[List.length_nil];omega);rw[show ((0:Nat):Int)=0 from rfl,V]at I;obtain⟨L,X,rfl,B⟩:=F;have w:=o.fr;simp only at w;subst w;have c':settle u.aD=[]:=by rw[←B,dg];rfl
    have Z:=Vo L c';have T:Mc.run z.steps.toNat s = { u with aD:=[],ai:=true } := by
     have hk:k≤z.steps.toNat:=by omega
     by_cases D:k=z.steps.toNat
     ·unfold Mc.run;rw[←D,Y];simp only;rw[Z]
     ·obtain⟨j,i⟩:∃j,z.steps.toNat=k+(j+1):=⟨z.steps.toNat-k-1,by omega⟩;unfold Mc.run;rw[i,Ju k (j+1) s u Y,Mc.steps];have:Mc.step u=({ u with aD:=[],ai:=true },false):=by unfold Mc.step;rw[Z]
      rw[this]
    rw[T];have H:=o.er;have G:=o.st;have W:=o.pk;simp only at H G W e1;have:=v.k0;exact⟨H,by simp only;omega,by simp only;omega,by simp only;omega,v.s1,v.k1,A⟩
end Hd
namespace Sm
open Mc
def F (x:Int):Prop:=bA x=x
theorem Ln (x:Int):F (bA x):=by unfold F bA;omega
theorem F0:F 0:=rfl
def Jk (s o:St):St := { s with funcs:=o.funcs,aD:=o.aD,stack:=o.stack,steps:=o.steps,aM:=o.aM,ai:=o.ai,br:=o.br }
structure Kp (s:St):Prop where
 stack:∀x∈s.stack,F x
 aP:∀x∈s.aP,F x
 store:∀x∈s.store,F x
 aF:∀p∈s.aF,F p.1∧F p.2
 aT:∀p∈s.aT,F p.1∧F p.2
 size:F s.size
theorem Vu {l:List Int}(h:∀x∈l,F x)(i:Nat):F (l.getD i 0):=by
 rw[List.getD_eq_getElem?_getD];cases e:l[i]? with
 |none=>exact F0
 |some x=>exact h x (List.mem_of_getElem? e)
theorem Zcp {l:List (Int×Int)} (h:∀p∈l,F p.1∧F p.2) (i:Nat):F (l.getD i (0,0)).1∧F (l.getD i (0,0)).2:=by
 rw[List.getD_eq_getElem?_getD];cases e:l[i]? with
 |none=>exact⟨F0,F0⟩
 |some x=>exact h x (List.mem_of_getElem? e)
theorem at_F {l:List Int}(h:∀x∈l,F x)(i:Int):F (aL l i):=by
 unfold aL;split
 ·exact Vu h _
 ·exact F0
theorem mF {l:List Int}(h:∀x∈l,F x)(i:Int){v:Int}(z:F v):∀x∈Iy l i v,F x:=by
 unfold Iy;split
 ·intro x y;rcases List.mem_or_eq_of_mem_set y with y|rfl
  ·exact h x y
  ·exact z
 ·exact h
theorem Zde {l:List (Int×Int)} (h:∀p∈l,F p.1∧F p.2) (a:Int) (i:Nat):F (Cg a (l.getD i (0,0))):=by
 unfold Cg;split
 ·exact(Zcp h i).2
 ·exact(Zcp h i).1
theorem to_F {p:Int×Int}(h:F p.1∧F p.2)(a v:Int):F (fm a p v).1∧F (fm a p v).2:=by
 unfold fm;split
 ·exact⟨h.1,Ln _⟩
 ·exact⟨Ln _,h.2⟩
theorem Zhk {l:List (Int×Int)} (h:∀p∈l,F p.1∧F p.2) (i:Nat) (a v:Int):∀p∈l.set i (fm a (l.getD i (0,0)) v),F p.1∧F p.2:=by
 intro p x;rcases List.mem_or_eq_of_mem_set x with x|rfl
 ·exact h p x
 ·exact to_F (Zcp h i) a v
theorem lm (aT:List (Int×Int)) (x:Int) (c:Nat×Nat) (a b:Nat):∀(n p:Nat) (aF:List (Int×Int)),(∀p∈aF,F p.1∧F p.2)→∀q∈seg aT x c a b n p aF,F q.1∧F q.2
 |0,_,_,h=>h
 |n+1,p,aF,h=>by
  unfold seg;split
  ·exact h
  ·exact lm aT x c a b n _ _ (Zhk h _ _ _)
theorem Ua {α β:Type}(Q:β→Prop)(f:β→α→β) (x:∀b a,Q b→Q (f b a)):∀(l:List α) (b:β),Q b→Q (l.foldl f b)
 | [],_,h=>h
 |a::l,b,h=>Ua Q f x l _ (x b a h)
theorem Zdf (aT:List (Int×Int)) (aB:List Int) (x:Int) (aF:List (Int×Int)) (c:Nat×Nat) (h:∀p∈aF,F p.1∧F p.2):∀p∈Ir aT aB x aF c,F p.1∧F p.2 :=
 Ua (fun aF:List (Int×Int)=>∀p∈aF,F p.1∧F p.2) _ (fun _ _ y=>lm _ _ _ _ _ _ _ _ y) _ _ h
theorem Zks {s:St}(h:Kp s)(x:Int):Kp (Nq s x) :=
 ⟨h.stack,h.aP,h.store,Ua (fun aF:List (Int×Int)=>∀p∈aF,F p.1∧F p.2) _ (fun _ _ y=>Zdf _ _ _ _ _ y) _ _ h.aF,h.aT,h.size⟩
theorem Kp.push {s:St}(h:Kp s)(v:Int):Kp (push v s):=⟨fun x y=>by
 simp only[Mc.push,List.mem_cons]at y;rcases y with rfl|y
 ·exact Ln _
 ·exact h.stack x y,h.aP,h.store,h.aF,h.aT,h.size⟩
theorem Kp.drop {s:St}(h:Kp s)(n:Nat):Kp { s with stack:=s.stack.drop n } := ⟨fun x y=>h.stack x (List.mem_of_mem_drop y),h.aP,h.store,h.aF,h.aT,h.size⟩
theorem Kp.bn {s:St}(h:Kp s)(p:Nat)(a v:Int):Kp (bn s p a v):=⟨h.stack,h.aP,h.store,Zhk h.aF _ _ _,h.aT,h.size⟩
theorem Kp.cC {s:St}(h:Kp s)(n:Int):Kp (cC s n):=by
 unfold Mc.cC;split
 ·exact h
 ·exact⟨h.stack,h.aP,h.store,h.aF,h.aT,h.size⟩
theorem Kp.call {s:St}(h:Kp s)(a n:Int):Kp (call s a n):=by
 unfold Mc.call;split
 ·exact⟨h.stack,h.aP,h.store,h.aF,h.aT,h.size⟩
 ·exact h
theorem Zdb {s:St}(h:Kp s)(op a:Int):Kp (deed op a s):=by
 have y:=h.drop 1;have x:=h.drop 2;have z:=Vu h.stack 0;unfold deed;simp only[fT,du];split
 all_goals first
  |exact h.push _
  |exact y.push _
  |exact x.push _
  |exact y
  |exact(y.push _).push _
  |exact(x.push _).push _
  |exact⟨h.stack,h.aP,h.store,h.aF,h.aT,h.size⟩
  |exact⟨x.stack,mF h.aP _ z,h.store,h.aF,h.aT,h.size⟩
  |exact⟨x.stack,h.aP,mF h.store _ z,h.aF,h.aT,h.size⟩
  |exact Zks h _
  |exact h.cC _
  |exact h.call _ _
  |exact y.call _ _
  |exact h
  | (split <;> first|exact x.bn _ _ _|exact x|exact y.cC _|exact y)
structure dh (s:St) (q:Sr.St):Prop where
 co:∃o,q.m=Jk s o
 rl:q.aW.length=64
 jx:∀i,i<s.stack.length→q.aW.getD (s.stack.length-1-i) 0=s.stack.getD i 0
 kp:Kp s
theorem dh.drop {s:St}{q:Sr.St}(h:dh s q)(n:Nat):dh { s with stack:=s.stack.drop n } q:=by
 obtain⟨o,x⟩:=h.co;refine⟨⟨o,x⟩,h.rl,fun i hi=>?_,h.kp.drop n⟩;simp only[List.length_drop]at hi ⊢;have:=h.jx (n+i) (by omega);rw[show s.stack.length-n-1-i=s.stack.length-1-(n+i) by omega,this];simp only[List.getD_eq_getElem?_getD,List.getElem?_drop]
theorem dh.put {s:St}{q:Sr.St}(h:dh s q)(v u:Int){d:Int} (z:d=(s.stack.length:Int)) (p:s.stack.length<64) (r:u=bA v):dh { s with stack:=bA v::s.stack } (Sr.put q d u):=by
 obtain⟨o,k⟩:=h.co;subst z r;refine⟨⟨o,k⟩,by simp[Sr.put,h.rl],fun i hi=>?_,⟨fun x y=>?_,h.kp.aP,h.kp.store,h.kp.aF,h.kp.aT,h.kp.size⟩⟩
 ·simp only[List.length_cons]at hi ⊢;simp only[Sr.put,Int.toNat_natCast,List.getD_eq_getElem?_getD,List.getElem?_set];cases i with
  |zero=>simp[h.rl,p]
  |succ i =>
   rw[if_neg (by omega)];have:=h.jx i (by omega);simp only[List.getD_eq_getElem?_getD]at this;rw[show s.stack.length+1-1-(i+1)=s.stack.length-1-i by omega,this];simp
 ·simp only[List.mem_cons]at y;rcases y with rfl|y
  ·exact Ln _
  ·exact h.kp.stack x y
theorem dh.lr {s:St}{q:Sr.St}(h:dh s q)(v:Int){d:Int} (y:(s.stack.length:Int)≤d):dh s (Sr.put q d v):=by
 obtain⟨o,x⟩:=h.co;refine⟨⟨o,x⟩,by simp[Sr.put,h.rl],fun i hi=>?_,h.kp⟩;have:=h.jx i hi;simp only[Sr.put,List.getD_eq_getElem?_getD,List.getElem?_set]at this ⊢;rw[if_neg (by omega),this]
theorem dh.go {s:St}{q:Sr.St}(h:dh s q)(pc st:Nat):dh s { q with pc:=pc,steps:=st } := ⟨h.co,h.rl,h.jx,h.kp⟩
theorem dh.iS {s:St}{q:Sr.St}(h:dh s q) (fu:List (List (Int×Int))) (fr:List Fm) (n p:Nat) (e:Bool) (er:Int):dh { s with funcs:=fu,aD:=fr,steps:=n,aM:=p,ai:=e,br:=er } q :=
 ⟨h.co,h.rl,h.jx,⟨h.kp.stack,h.kp.aP,h.kp.store,h.kp.aF,h.kp.aT,h.kp.size⟩⟩
theorem dh.bm {s:St}{q:Sr.St}(h:dh s q){d:Int} (x:d=(s.stack.length:Int)-1) (y:1≤s.stack.length):Sr.get q d=s.stack.getD 0 0:=by
 have:=h.jx 0 (by omega);unfold Sr.get;rw[←this]
 congr 1
 omega
theorem dh.cJ {s:St}{q:Sr.St}(h:dh s q){d:Int} (x:d=(s.stack.length:Int)-2) (y:2≤s.stack.length):Sr.get q d=s.stack.getD 1 0:=by
 have:=h.jx 1 (by omega);unfold Sr.get;rw[←this]
 congr 1
 omega
theorem Zai (m x:Int):F (Db m x):=Ln _
theorem Zjz {s:St}{q:Sr.St}(h:dh s q)(op a:Int) (k:(Sr.cS op).1=3) (i:op≠40) (c:1≤s.stack.length) (j:s.stack.length≤32) {d:Int} (p:d=(s.stack.length:Int)-1):dh (deed op a s) (Sr.deed ⟨op,d,d,0,0⟩ q):=by
 have y:=h.bm p c;have b:=h.drop 1;have key:∀v u,u=bA v→dh { s with stack:=bA v::s.stack.drop 1 } (Sr.put q d u):=fun v u f=>b.put v u (by simp only[List.length_drop];omega) (by simp only[List.length_drop];omega) f
 have r:=h.co;have z:=h.kp;generalize e:s.stack.getD 0 0=x at *;obtain⟨aW,m,pc,st⟩:=q;obtain⟨o,rfl⟩:∃o,m=Jk s o:=r;have g:op=9∨op=10∨op=13∨op=14∨op=15∨op=19∨op=25∨op=27∨op=29∨op=30:=by
  unfold Sr.cS at k
  repeat' split at k
  all_goals first|omega|(exfalso;simp at k)
 rcases g with rfl|rfl|rfl|rfl|rfl|rfl|rfl|rfl|rfl|rfl
 all_goals subst e
 ·exact key (-(s.stack.getD 0 0)) (bA (-(Sr.get _ d))) (by rw[y])
 ·exact key (max (s.stack.getD 0 0) (-(s.stack.getD 0 0))) (bA (max (Sr.get _ d) (-(Sr.get _ d)))) (by rw[y])
 ·exact key (Db 4 (s.stack.getD 0 0)) (bA (Db 4 (Sr.get _ d))) (by rw[y])
 ·exact key (Db 5 (s.stack.getD 0 0)) (bA (Db 5 (Sr.get _ d))) (by rw[y])
 ·exact key (Db s.bG (s.stack.getD 0 0)) (Db s.bG (Sr.get _ d)) (by rw[y];exact(Zai _ _).symm)
 ·exact key (bC (decide (s.stack.getD 0 0=0))) (bA (bC (decide (Sr.get _ d=0)))) (by rw[y])
 ·exact key (aL s.aP (s.stack.getD 0 0)) (aL s.aP (Sr.get _ d)) (by rw[y];exact(at_F z.aP _).symm)
 ·exact key (aL s.store (s.stack.getD 0 0)) (aL s.store (Sr.get _ d)) (by rw[y];exact(at_F z.store _).symm)
 ·refine key (if cO s (s.stack.getD 0 0) then Cg s.look (s.aF.getD (s.stack.getD 0 0).toNat (0,0)) else 0) (if cO s (Sr.get _ d) then Cg s.look (s.aF.getD (Sr.get _ d).toNat (0,0)) else 0) ?_;rw[y];split
  ·exact(Zde z.aF _ _).symm
  ·rfl
 ·refine key (if cO s (s.stack.getD 0 0) then Cg s.look (s.aT.getD (s.stack.getD 0 0).toNat (0,0)) else 0) (if cO s (Sr.get _ d) then Cg s.look (s.aT.getD (Sr.get _ d).toNat (0,0)) else 0) ?_;rw[y];split
  ·exact(Zde z.aT _ _).symm
  ·rfl
theorem Zjx {s:St}{q:Sr.St}(h:dh s q)(op a:Int) (z:(Sr.cS op).1=7) (b:2≤s.stack.length) (f:s.stack.length≤32) {d t:Int} (k:d=(s.stack.length:Int)-2) (p:t=(s.stack.length:Int)-1):dh (deed op a s) (Sr.deed ⟨op,d,d,t,0⟩ q):=by
 have y:=h.bm p (by omega);have x:=h.cJ k b;have r:=h.drop 2;have key:∀v u,u=bA v→dh { s with stack:=bA v::s.stack.drop 2 } (Sr.put q d u):=fun v u c=>r.put v u (by simp only[List.length_drop];omega) (by simp only[List.length_drop];omega) c
 have e:op=5∨op=6∨op=7∨op=8∨op=11∨op=12∨op=16∨op=17∨op=18∨op=20∨op=21:=by
  unfold Sr.cS at z
  repeat' split at z
  all_goals first|omega|(exfalso;simp at z)
 rcases e with rfl|rfl|rfl|rfl|rfl|rfl|rfl|rfl|rfl|rfl|rfl
 ·exact key (s.stack.getD 1 0+s.stack.getD 0 0) (bA (Sr.get q d+Sr.get q t)) (by rw[y,x])
 ·exact key (s.stack.getD 1 0-s.stack.getD 0 0) (bA (Sr.get q d-Sr.get q t)) (by rw[y,x])
 ·exact key (bA (s.stack.getD 1 0*s.stack.getD 0 0 / 64)) (bA (bA (Sr.get q d*Sr.get q t / 64))) (by rw[y,x])
 ·exact key (bA (eT (64*s.stack.getD 1 0) (s.stack.getD 0 0))) (bA (bA (eT (64*Sr.get q d) (Sr.get q t)))) (by rw[y,x])
 ·exact key (min (s.stack.getD 1 0) (s.stack.getD 0 0)) (bA (min (Sr.get q d) (Sr.get q t))) (by rw[y,x])
 ·exact key (max (s.stack.getD 1 0) (s.stack.getD 0 0)) (bA (max (Sr.get q d) (Sr.get q t))) (by rw[y,x])
 ·exact key (bC (decide (s.stack.getD 1 0<s.stack.getD 0 0))) (bA (bC (decide (Sr.get q d<Sr.get q t)))) (by rw[y,x])
 ·exact key (bC (decide (s.stack.getD 1 0≤s.stack.getD 0 0))) (bA (bC (decide (Sr.get q d≤Sr.get q t)))) (by rw[y,x])
 ·exact key (bC (decide (s.stack.getD 1 0=s.stack.getD 0 0))) (bA (bC (decide (Sr.get q d=Sr.get q t)))) (by rw[y,x])
 ·exact key (bC (decide (s.stack.getD 1 0≠0∧s.stack.getD 0 0≠0))) (bA (bC (decide (Sr.get q d≠0∧Sr.get q t≠0)))) (by rw[y,x])
 ·exact key (bC (decide (s.stack.getD 1 0≠0∨s.stack.getD 0 0≠0))) (bA (bC (decide (Sr.get q d≠0∨Sr.get q t≠0)))) (by rw[y,x])
theorem Zjy {s:St}{q:Sr.St}(h:dh s q)(op a:Int) (r:(Sr.cS op).1=6) (e:2≤s.stack.length) {d t:Int} (b:d=(s.stack.length:Int)-2) (c:t=(s.stack.length:Int)-1):dh (deed op a s) (Sr.deed ⟨op,0,d,t,0⟩ q):=by
 have k:=h.bm c (by omega);have v:=h.cJ b e;have y:=h.drop 2;have z:=Zdb h.kp op a;obtain⟨aW,m,pc,st⟩:=q;obtain⟨o,rfl⟩:∃o,m=Jk s o:=h.co;have f:op=26∨op=28∨op=31∨op=32∨op=33:=by
  unfold Sr.cS at r
  repeat' split at r
  all_goals first|omega|(exfalso;simp at r)
 rcases f with rfl|rfl|rfl|rfl|rfl
 ·refine⟨⟨o,?_⟩,y.rl,y.jx,z⟩
  show ({ Jk s o with aP:=Iy s.aP (Sr.get ⟨aW,Jk s o,pc,st⟩ d) (Sr.get ⟨aW,Jk s o,pc,st⟩ t) }:St)=Jk { s with stack:=s.stack.drop 2,aP:=Iy s.aP (s.stack.getD 1 0) (s.stack.getD 0 0) } o
  rw[k,v];rfl
 ·refine⟨⟨o,?_⟩,y.rl,y.jx,z⟩
  show ({ Jk s o with store:=Iy s.store (Sr.get ⟨aW,Jk s o,pc,st⟩ d) (Sr.get ⟨aW,Jk s o,pc,st⟩ t) }:St)=Jk { s with stack:=s.stack.drop 2,store:=Iy s.store (s.stack.getD 1 0) (s.stack.getD 0 0) } o
  rw[k,v];rfl
 ·have p:deed 31 a s=if cO s (s.stack.getD 1 0) then bn { s with stack:=s.stack.drop 2 } (s.stack.getD 1 0).toNat s.move (Cg s.move (s.aF.getD (s.stack.getD 1 0).toNat (0,0))+s.stack.getD 0 0) else { s with stack:=s.stack.drop 2 } := rfl
  have u:Sr.deed ⟨31,0,d,t,0⟩ ⟨aW,Jk s o,pc,st⟩=if cO s (Sr.get ⟨aW,Jk s o,pc,st⟩ d) then⟨aW,bn (Jk s o) (Sr.get ⟨aW,Jk s o,pc,st⟩ d).toNat s.move (Cg s.move (s.aF.getD (Sr.get ⟨aW,Jk s o,pc,st⟩ d).toNat (0,0))+Sr.get ⟨aW,Jk s o,pc,st⟩ t),pc,st⟩ else⟨aW,Jk s o,pc,st⟩:=rfl
  rw[p]at z ⊢;rw[u,k,v];split at z
  ·rename_i x;rw[if_pos x,if_pos x];exact⟨⟨o,rfl⟩,y.rl,y.jx,z⟩
  ·rename_i x;rw[if_neg x,if_neg x];exact y
 ·have p:deed 32 a s=if s.look=s.move∧cO s (s.stack.getD 1 0) then bn { s with stack:=s.stack.drop 2 } (s.stack.getD 1 0).toNat s.move (s.stack.getD 0 0) else { s with stack:=s.stack.drop 2 } := rfl
  have u:Sr.deed ⟨32,0,d,t,0⟩ ⟨aW,Jk s o,pc,st⟩=if s.look=s.move∧cO s (Sr.get ⟨aW,Jk s o,pc,st⟩ d) then⟨aW,bn (Jk s o) (Sr.get ⟨aW,Jk s o,pc,st⟩ d).toNat s.move (Sr.get ⟨aW,Jk s o,pc,st⟩ t),pc,st⟩ else⟨aW,Jk s o,pc,st⟩:=rfl
  rw[p]at z ⊢;rw[u,k,v];split at z
  ·rename_i x;rw[if_pos x,if_pos x];exact⟨⟨o,rfl⟩,y.rl,y.jx,z⟩
  ·rename_i x;rw[if_neg x,if_neg x];exact y
 ·have p:deed 33 a s=if s.look=s.move∧cO s (s.stack.getD 1 0)∧cO s (s.stack.getD 0 0) then bn { s with stack:=s.stack.drop 2 } (s.stack.getD 0 0).toNat s.move (Cg s.move (s.aF.getD (s.stack.getD 1 0).toNat (0,0))) else { s with stack:=s.stack.drop 2 } := rfl
  have u:Sr.deed ⟨33,0,d,t,0⟩ ⟨aW,Jk s o,pc,st⟩=if s.look=s.move∧cO s (Sr.get ⟨aW,Jk s o,pc,st⟩ d)∧cO s (Sr.get ⟨aW,Jk s o,pc,st⟩ t) then⟨aW,bn (Jk s o) (Sr.get ⟨aW,Jk s o,pc,st⟩ t).toNat s.move (Cg s.move (s.aF.getD (Sr.get ⟨aW,Jk s o,pc,st⟩ d).toNat (0,0))),pc,st⟩ else⟨aW,Jk s o,pc,st⟩:=rfl
  rw[p]at z ⊢;rw[u,k,v];split at z
  ·rename_i x;rw[if_pos x,if_pos x];exact⟨⟨o,rfl⟩,y.rl,y.jx,z⟩
  ·rename_i x;rw[if_neg x,if_neg x];exact y
theorem Zfa {s:St}{q:Sr.St}(h:dh s q)(op a:Int)(x:op=22∨op=23∨op=24∨op=34):dh (deed op a s) (Sr.deed ⟨op,0,0,0,a⟩ q):=by
 have y:=Zdb h.kp op a;obtain⟨aW,m,pc,st⟩:=q;obtain⟨o,rfl⟩:∃o,m=Jk s o:=h.co;rcases x with rfl|rfl|rfl|rfl
 all_goals exact⟨⟨o,rfl⟩,h.rl,h.jx,y⟩
def dI (aA:List Sr.bE)(n:Nat)(q x:Sr.St):Prop:=(∀m,Sr.runs (n+m) aA q=Sr.runs m aA x)∧x.steps=q.steps+n∧q.pc+n≤x.pc
theorem dI.refl (aA:List Sr.bE)(q:Sr.St):dI aA 0 q q:=⟨fun m=>by rw[Nat.zero_add],rfl,Nat.le_refl _⟩
theorem dI.trans {aA:List Sr.bE}{n k:Nat}{q q1 q2:Sr.St}(h:dI aA n q q1)(g:dI aA k q1 q2):dI aA (n+k) q q2 :=
 ⟨fun m=>by rw[Nat.add_assoc,h.1,g.1],by rw[g.2.1,h.2.1,Nat.add_assoc],by have:=h.2.2;have:=g.2.2;omega⟩
def At (aA:List Sr.bE)(pc:Nat)(l:List Sr.bE):Prop:=∀i r,l[i]?=some r→aA[pc+i]?=some r
theorem At.left {aA:List Sr.bE}{pc:Nat}{a b:List Sr.bE} (h:At aA pc (a++b)):At aA pc a:=fun i r x=>h i r (by rw[List.getElem?_append_left (List.getElem?_eq_some_iff.1 x).1];exact x)
theorem At.right {aA:List Sr.bE}{pc:Nat}{a b:List Sr.bE} (h:At aA pc (a++b)):At aA (pc+a.length) b:=fun i r x=>by
 rw[Nat.add_assoc];exact h (a.length+i) r (by rw[List.getElem?_append_right (by omega),Nat.add_sub_cancel_left];exact x)
theorem At.head {aA:List Sr.bE}{pc:Nat}{r:Sr.bE}{b:List Sr.bE} (h:At aA pc (r::b)):aA[pc]?=some r:=h 0 r rfl
theorem At.tail {aA:List Sr.bE}{pc:Nat}{r:Sr.bE}{b:List Sr.bE} (h:At aA pc (r::b)):At aA (pc+1) b:=At.right (a:=[r]) h
theorem At.kV {aA:List Sr.bE}{g:Nat→List Sr.bE}{L:Nat} (v:∀k,(g k).length=L):∀(n pc:Nat),At aA pc ((List.range n).flatMap g)→∀k,k<n→At aA (pc+k*L) (g k):=by
 intro n
 induction n with
 |zero=>intro pc _ k z;omega
 |succ n ih =>
  intro pc h k z;rw[List.range_succ,List.flatMap_append]at h;by_cases y:k<n
  ·exact ih pc h.left k y
  ·obtain rfl:k=n:=by omega
   have x:=h.right;have u:((List.range k).flatMap g).length=k*L:=by
    clear h x ih z y
    induction k with
    |zero=>simp
    |succ k ih=>rw[List.range_succ,List.flatMap_append,List.length_append,ih,List.flatMap_singleton,v,Nat.succ_mul]
   rw[u,List.flatMap_singleton]at x;exact x
theorem Zdc {r:Sr.bE}(h:Sr.cP r.op=false)(q:Sr.St):(Sr.deed r q).pc=q.pc∧(Sr.deed r q).steps=q.steps:=by
 have x:¬ r.op.toNat=35:=fun e=>by rw[show r.op=35 by omega]at h;cases h
 have z:¬ r.op.toNat=36:=fun e=>by rw[show r.op=36 by omega]at h;cases h
 have y:¬ r.op.toNat=41:=fun e=>by rw[show r.op=41 by omega]at h;cases h
 clear h;unfold Sr.deed;split
 all_goals (simp only[Sr.put,Sr.cC];refine⟨?_,?_⟩ <;> (repeat' split) <;> first|trivial|rfl|omega)
theorem lM {aA:List Sr.bE}{q:Sr.St}{r:Sr.bE} (h:aA[q.pc]?=some r) (y:r.op≠42) (m:Nat):Sr.runs (1+m) aA q=Sr.runs m aA (Sr.deed r { q with pc:=q.pc+1,steps:=q.steps+1 }):=by
 have x:aA.getD q.pc Sr.kK=r:=by rw[List.getD_eq_getElem?_getD,h];rfl
 rw[Nat.add_comm,Sr.runs,x,if_neg y];unfold Sr.step;rw[x]
theorem Zcn {aA:List Sr.bE}{q:Sr.St}{r:Sr.bE} (h:aA[q.pc]?=some r) (y:r.op≠42) (z:Sr.cP r.op=false):dI aA 1 q (Sr.deed r { q with pc:=q.pc+1,steps:=q.steps+1 })∧(Sr.deed r { q with pc:=q.pc+1,steps:=q.steps+1 }).pc=q.pc+1:=by
 obtain⟨x,u⟩:=Zdc z { q with pc:=q.pc+1,steps:=q.steps+1 };exact⟨⟨lM h y,u,by rw[x];exact Nat.le_refl _⟩,x⟩
def dy (n:Nat)(q x:Sr.St):Prop:=∀i,i<n→x.aW.getD (32+i) 0=q.aW.getD (32+i) 0
theorem dy.refl (n:Nat)(q:Sr.St):dy n q q:=fun _ _=>rfl
theorem dy.trans {n:Nat}{q q1 q2:Sr.St}(h:dy n q q1)(g:dy n q1 q2):dy n q q2:=fun i hi=>(g i hi).trans (h i hi)
theorem gE (r:Sr.bE)(q:Sr.St):(Sr.deed r q).aW=q.aW∨∃v,(Sr.deed r q).aW=q.aW.set r.d.toNat v:=by
 unfold Sr.deed;split
 all_goals first
  |exact .inl rfl
  |exact .inr ⟨_,rfl⟩
  | (simp only[Sr.cC];split <;> exact .inl rfl)
  | (simp only;split <;> exact .inl rfl)
theorem Il {n:Nat}{r:Sr.bE}(h:r.d.toNat<32∨32+n≤r.d.toNat)(q:Sr.St)(pc st:Nat):dy n q (Sr.deed r { q with pc:=pc,steps:=st }):=by
 intro i hi;rcases gE r { q with pc:=pc,steps:=st } with e|⟨v,e⟩
 ·rw[e]
 ·rw[e];simp only[List.getD_eq_getElem?_getD,List.getElem?_set];rw[if_neg (by omega)]
end Sm
namespace Sm
open Mc Hd
theorem Mf {aA:List Sr.bE}{q:Sr.St}{r:Sr.bE}{loops:Nat}{t:St} (s:At aA q.pc [r]) (z:r.op≠42) (u:Sr.cP r.op=false) (y:r.d.toNat<32∨32+loops≤r.d.toNat) (p:∀pc st,dh t (Sr.deed r { q with pc:=pc,steps:=st })) :
  ∃n x,dI aA n q x∧x.pc=q.pc+[r].length∧dh t x∧dy loops q x:=by
 obtain⟨k,v⟩:=Zcn s.head z u;exact⟨1,_,k,v,p _ _,Il y q _ _⟩
theorem Me (es:List Bu.cU){op:Int}(a next loops:Int)(h:op≠1∧op≠2∧op≠3∧op≠4∧op≠35∧op≠36∧op≠37∧op≠38∧op≠39):Bu.bD es (op,a) next loops=Bu.cx (op,a) (next-1) (next-2):=by
 obtain⟨k,u,r,v,q,x,p,z,y⟩:=h;unfold Bu.bD;simp only[k,u,r,v,q,x,p,z,y,if_false]
theorem Zd {op:Int}(h:1≤op∧op≤39)(x:op≠1∧op≠2∧op≠3∧op≠4∧op≠35∧op≠36∧op≠37∧op≠38∧op≠39) :
  ((Sr.cS op).1=3∧aO op=1∧aV op=1)∨((Sr.cS op).1=7∧aO op=2∧aV op=1)∨((Sr.cS op).1=6∧aO op=2∧aV op=0)∨((op=22∨op=23∨op=24∨op=34)∧(Sr.cS op).1=0∧aO op=0∧aV op=0):=by
 have y:op=5∨op=6∨op=7∨op=8∨op=9∨op=10∨op=11∨op=12∨op=13∨op=14∨op=15∨op=16∨op=17∨op=18∨op=19∨op=20∨op=21∨op=22∨op=23∨op=24∨op=25∨op=26∨op=27∨op=28∨op=29∨op=30∨op=31∨op=32∨op=33∨op=34:=by omega
 clear h x;rcases y with rfl|rfl|rfl|rfl|rfl|rfl|rfl|rfl|rfl|rfl|rfl|rfl|rfl|rfl|rfl|rfl|rfl|rfl|rfl|rfl|rfl|rfl|rfl|rfl|rfl|rfl|rfl|rfl|rfl|rfl
 all_goals decide
theorem Fp {op:Int}(h:op≠35∧op≠36∧op≠41):Sr.cP op=false:=by
 unfold Sr.cP;simp[h.1,h.2.1,h.2.2]
theorem Xa {s:St}(h:1≤s.stack.length):s.stack=s.stack.getD 0 0::s.stack.drop 1:=by
 cases y:s.stack with
 |nil=>rw[y]at h;simp at h
 |cons x r=>rfl
theorem Zau {s:St}{q:Sr.St}{aA:List Sr.bE}{es:List Bu.cU}(h:dh s q){op a:Int}(Q:1≤op∧op≤39)(I:op≠35∧op≠36∧op≠37∧op≠38)(j:aO op≤s.stack.length)(M:s.stack.length+aV op≤32+aO op)(H:s.stack.length≤32)(loops:Nat)(O:loops≤30){next:Int} (b:next=(s.stack.length:Int)) (x:At aA q.pc (Bu.bD es (op,a) next loops)) :
  ∃n k,dI aA n q k∧k.pc=q.pc+(Bu.bD es (op,a) next loops).length∧dh (deed op a s) k∧dy loops q k:=by
 obtain⟨N,L,T,W⟩:=I;by_cases V:op=1∨op=2∨op=3∨op=4∨op=39
 ·rcases V with rfl|rfl|rfl|rfl|rfl
  ·have w:s.stack.length≤31:=by
    have:aO 1=0:=rfl;have:aV 1=1:=rfl;omega
   exact Mf x (by simp) (Fp (by simp)) (.inl (by show next.toNat<32;omega)) fun pc st=>(h.go pc st).put a (bA a) b (by omega) rfl
  ·exact⟨0,q,dI.refl _ _,rfl,h.drop 1,dy.refl _ _⟩
  ·have w:s.stack.length≤31:=by
    have:aO 3=1:=rfl;have:aV 3=2:=rfl;omega
   have v:1≤s.stack.length:=j;have e:=Xa v;refine Mf x (by simp) (Fp (by simp)) (.inl (by show next.toNat<32;omega)) fun pc st=>?_
   have:=(h.go pc st).put (s.stack.getD 0 0) (bA (Sr.get { q with pc:=pc,steps:=st } (next-1))) b (by omega) (by rw[(h.go pc st).bm (by omega) v]);have u:deed 3 a s = { s with stack:=bA (s.stack.getD 0 0)::s.stack } := by
    show ({ s with stack:=bA (s.stack.getD 0 0)::bA (s.stack.getD 0 0)::s.stack.drop 1 }:St)=_
    rw[Vu h.kp.stack 0,←e]
   rw[u];exact this
  ·have v:2≤s.stack.length:=j;obtain⟨D,l⟩:=Zcn (q:=q) x.head (by simp) (Fp (by simp));generalize f:Sr.deed ⟨40,63,next-1,0,0⟩ { q with pc:=q.pc+1,steps:=q.steps+1 } = q1 at *;have i:At aA q1.pc [⟨40,next-1,next-2,0,0⟩,⟨40,next-2,63,0,0⟩]:=by rw[l];exact x.tail
   obtain⟨S,g⟩:=Zcn (q:=q1) i.head (by simp) (Fp (by simp));generalize X:Sr.deed ⟨40,next-1,next-2,0,0⟩ { q1 with pc:=q1.pc+1,steps:=q1.steps+1 } = q2 at *;have R:At aA q2.pc [⟨40,next-2,63,0,0⟩]:=by rw[g];exact i.tail
   obtain⟨J,Y⟩:=Zcn (q:=q2) R.head (by simp) (Fp (by simp));have k1:dy loops q q1:=f ▸ Il (.inr (by show 32+loops≤63;omega)) q _ _;have k2:dy loops q1 q2:=X ▸ Il (.inl (by show (next-1).toNat<32;omega)) q1 _ _;refine⟨1+1+1,_,(D.trans S).trans J,by rw[Y,g,l];rfl,?_,(k1.trans k2).trans (Il (.inl (by show (next-2).toNat<32;omega)) q2 _ _)⟩;have G:=h.bm (d:=next-1) (by omega) (by omega);have E:=h.cJ (d:=next-2) (by omega) v;have c:q1 = { q with pc:=q.pc+1,steps:=q.steps+1,aW:=q.aW.set 63 (bA (s.stack.getD 0 0)) } := by
    rw[←f,←G];rfl
   have U:Sr.get q1 (next-2)=s.stack.getD 1 0:=by
    rw[←E,c];unfold Sr.get;simp only[List.getD_eq_getElem?_getD,List.getElem?_set];rw[if_neg (by omega)]
   have u:q2 = { q1 with pc:=q1.pc+1,steps:=q1.steps+1,aW:=q1.aW.set (next-1).toNat (bA (s.stack.getD 1 0)) } := by
    rw[←X,←U];rfl
   have Z:Sr.get q2 63=bA (s.stack.getD 0 0):=by
    rw[u,c];unfold Sr.get;simp only[List.getD_eq_getElem?_getD,List.getElem?_set,List.length_set,h.rl];rw[if_neg (by omega)];simp
   have B:dh { s with stack:=s.stack.drop 2 } q1:=by
    rw[c];have:=((h.drop 2).go (q.pc+1) (q.steps+1)).lr (bA (s.stack.getD 0 0)) (d:=63) (by simp only[List.length_drop];omega);exact this
   have A:((s.stack.drop 2).length:Int)=next-2:=by simp only[List.length_drop];omega
   have C:=(B.put (s.stack.getD 0 0) (bA (bA (s.stack.getD 0 0))) (d:=next-2) A.symm (by simp only[List.length_drop];omega) (Ln _)).put (s.stack.getD 1 0) (bA (s.stack.getD 1 0)) (d:=next-1) (by simp only[List.length_cons];omega) (by simp only[List.length_cons,List.length_drop];omega) rfl;have F:({ q2 with pc:=q2.pc+1,steps:=q2.steps+1,aW:=q2.aW.set (next-2).toNat (bA (Sr.get q2 63)) }:Sr.St) = { Sr.put (Sr.put q1 (next-2) (bA (bA (s.stack.getD 0 0)))) (next-1) (bA (s.stack.getD 1 0)) with pc:=q2.pc+1,steps:=q2.steps+1 } := by
    rw[Z,u];simp only[Sr.put];rw[List.set_comm _ _ (by omega)]
   have P:Sr.deed ⟨40,next-2,63,0,0⟩ { q2 with pc:=q2.pc+1,steps:=q2.steps+1 } = { q2 with pc:=q2.pc+1,steps:=q2.steps+1,aW:=q2.aW.set (next-2).toNat (bA (Sr.get q2 63)) } := rfl;rw[P,F];exact C.go _ _
  ·have w:s.stack.length≤31:=by
    have:aO 39=0:=rfl;have:aV 39=1:=rfl;omega
   obtain⟨o,r⟩:=h.co;refine Mf x (by simp) (Fp (by simp)) (.inl (by show next.toNat<32;omega)) fun pc st=>(h.go pc st).put s.size q.m.size b (by omega) ?_
   rw[r];exact h.kp.size.symm
 ·have K:op≠1∧op≠2∧op≠3∧op≠4∧op≠35∧op≠36∧op≠37∧op≠38∧op≠39:=by omega
  have z:Sr.cP op=false:=Fp (by omega);rw[Me es a next loops K]at x ⊢;unfold Bu.cx at x ⊢;simp only at x ⊢;rcases Zd Q K with⟨y,p,_⟩|⟨y,p,_⟩|⟨y,p,_⟩|⟨r,y,p,_⟩
  ·rw[if_pos y]at x ⊢;exact Mf x (by show op≠42;omega) z (.inl (by show (next-1).toNat<32;omega)) fun pc st=>Zjz (h.go pc st) op a y (by omega) (by omega) H (by omega)
  ·rw[if_neg (by omega),if_pos y]at x ⊢;exact Mf x (by show op≠42;omega) z (.inl (by show (next-2).toNat<32;omega)) fun pc st=>Zjx (h.go pc st) op a y (by omega) H (by omega) (by omega)
  ·rw[if_neg (by omega),if_neg (by omega),if_pos y]at x ⊢;exact Mf x (by show op≠42;omega) z (.inl (by show (0:Int).toNat<32;decide)) fun pc st=>Zjy (h.go pc st) op a y (by omega) (by omega) (by omega)
  ·rw[if_neg (by omega),if_neg (by omega),if_neg (by omega)]at x ⊢;exact Mf x (by show op≠42;omega) z (.inl (by show (0:Int).toNat<32;decide)) fun pc st=>Zfa (h.go pc st) op a r
theorem Zcm {aA:List Sr.bE}{q:Sr.St}{n:Int} (h:aA[q.pc]?=some ⟨35,0,0,0,n⟩):dI aA 1 q { q with pc:=q.pc+1+n.toNat,steps:=q.steps+1 } :=
 ⟨lM h (by simp),rfl,by show q.pc+1≤q.pc+1+n.toNat;omega⟩
theorem Yg {aA:List Sr.bE}{q:Sr.St}{a n:Int} (h:aA[q.pc]?=some ⟨36,0,a,0,n⟩):dI aA 1 q { q with pc:=if Sr.get q a=0 then q.pc+1+n.toNat else q.pc+1,steps:=q.steps+1 } := by
 have e:Sr.deed ⟨36,0,a,0,n⟩ { q with pc:=q.pc+1,steps:=q.steps+1 } = { q with pc:=if Sr.get q a=0 then q.pc+1+n.toNat else q.pc+1,steps:=q.steps+1 } := by
  show Sr.cC _ n (decide (Sr.get q a=0))=_
  unfold Sr.cC;by_cases x:Sr.get q a=0 <;> simp[x]
 refine⟨fun m=>by rw[lM h (by show (36:Int)≠42;decide),e],rfl,?_⟩
 show q.pc+1≤if Sr.get q a=0 then q.pc+1+n.toNat else q.pc+1
 split <;> omega
theorem Ki {aA:List Sr.bE}{q:Sr.St}{a b n:Int} (h:aA[q.pc]?=some ⟨41,0,a,b,n⟩):dI aA 1 q { q with pc:=if Sr.get q a≤b then q.pc+1+n.toNat else q.pc+1,steps:=q.steps+1 } := by
 have e:Sr.deed ⟨41,0,a,b,n⟩ { q with pc:=q.pc+1,steps:=q.steps+1 } = { q with pc:=if Sr.get q a≤b then q.pc+1+n.toNat else q.pc+1,steps:=q.steps+1 } := by
  show Sr.cC _ n (decide (Sr.get q a≤b))=_
  unfold Sr.cC;by_cases x:Sr.get q a≤b <;> simp[x]
 refine⟨fun m=>by rw[lM h (by show (41:Int)≠42;decide),e],rfl,?_⟩
 show q.pc+1≤if Sr.get q a≤b then q.pc+1+n.toNat else q.pc+1
 split <;> omega
def Zea (fl:List (List (Int×Int))) (aA:List Sr.bE) (es:List Bu.cU) (j:Nat) (c:Bd.aa):Prop :=
 ∀(s:St) (m:Nat) (r:List Fm) (q:Sr.St) (loops:Nat),s.aD=⟨fl.getD j [],0,m⟩::r→s.ai=false→s.br=0→s.funcs=fl→c.aU≤s.stack.length→s.stack.length+c.aM≤32→r.length+1+j≤21→loops≤r.length→dh s q→At aA q.pc (Bu.em es j s.stack.length loops) →
  ∃k t n x,Goes k s t∧fv s t k (⟨fl.getD j [],(fl.getD j []).length,m⟩::r) (s.stack.length+c.aM)∧(t.stack.length:Int)=s.stack.length+c.delta∧(k:Int)≤c.steps∧dI aA n q x∧x.pc=q.pc+(Bu.em es j s.stack.length loops).length∧dh t x∧dy loops q x
theorem Sp {l:List (Int×Int)} {m:Nat} {r:List Fm}:settle (⟨l,0,m⟩::r)=settle (⟨l,l.length,m+1⟩::r):=by
 by_cases h:0<l.length
 ·exact(Ky h).symm
 ·obtain rfl:l=[]:=List.length_eq_zero_iff.1 (by omega);rw[e_];exact(e_ (m:=m+1)).symm
theorem Zcu (k L:Nat)(x:k<16):k*(1+L)+1+((16-(k:Int))*(1+(L:Int))-1).toNat=16*(1+L):=by
 have h:k=0∨k=1∨k=2∨k=3∨k=4∨k=5∨k=6∨k=7∨k=8∨k=9∨k=10∨k=11∨k=12∨k=13∨k=14∨k=15:=by omega
 rcases h with rfl|rfl|rfl|rfl|rfl|rfl|rfl|rfl|rfl|rfl|rfl|rfl|rfl|rfl|rfl|rfl <;> omega
theorem Zga {fl:List (List (Int×Int))} {aA:List Sr.bE} {es:List Bu.cU} {j:Nat} {c:Bd.aa} (N:Zea fl aA es j c) (hd:c.delta=0) (loops:Nat) (x:Int) (e L h:Nat) (O:(Bu.em es j h ((loops:Int)+1)).length=L)
  (E:∀i:Nat,i<16→At aA (e+i*(1+L)) (⟨41,0,32+(loops:Int),(i:Int),(16-(i:Int))*(1+(L:Int))-1⟩::Bu.em es j h ((loops:Int)+1))) :
  ∀(z k:Nat) (s:St) (r:List Fm) (q:Sr.St),min x 16=(k:Int)+z+1→s.stack.length=h→s.aD=⟨fl.getD j [],0,z⟩::r→s.ai=false→s.br=0→s.funcs=fl→c.aU≤s.stack.length→s.stack.length+c.aM≤32→r.length+1+j≤21→loops+1≤r.length→dh s q→q.pc=e+k*(1+L)→q.aW.getD (32+loops) 0=x →
  ∃C t n y,Goes C s t∧fv s t C r (s.stack.length+c.aM)∧t.stack.length=s.stack.length∧(C:Int)≤(z+1)*c.steps∧dI aA n q y∧y.pc=e+16*(1+L)∧dh t y∧dy loops q y:=by
 intro z
 induction z with
 |zero =>
  intro k s r q hx l F B P K A I U Z J m d;have S:k<16:=by omega
  have u:=E k S;rw[←m]at u;have Q:Sr.get q (32+(loops:Int))=x:=by unfold Sr.get;rw[show (32+(loops:Int)).toNat=32+loops by omega];exact d
  have p:=Ki u.head;rw[Q,if_neg (by omega)]at p;have G:At aA (q.pc+1) (Bu.em es j s.stack.length ((loops+1:Nat):Int)):=by rw[l];exact u.tail
  obtain⟨k1,t,n,y,w,v,e3,D,H,f,R,o⟩:=N s 0 r { q with pc:=q.pc+1,steps:=q.steps+1 } (loops+1) F B P K A I U Z (J.go _ _) G;obtain⟨a,b⟩:=v.left (Y:=r) dg.symm;have V:dh { t with aD:=r } y:=R.iS t.funcs r t.steps t.aM t.ai t.br;have X:dy loops q y:=fun i hi=>o i (by omega)
  rw[l]at f;have g:y.pc=e+(k+1)*(1+L):=by
   rw[f,Nat.succ_mul]
   show q.pc+1+(Bu.em es j h ((loops:Int)+1)).length=_
   rw[O,m];omega
  have q':(t.stack.length:Int)=s.stack.length:=by omega
  by_cases T:k+1<16
  ·have M:=E (k+1) T;rw[←g]at M;have ha:Sr.get y (32+(loops:Int))=x:=by
    unfold Sr.get;rw[show (32+(loops:Int)).toNat=32+loops by omega,o loops (by omega)];exact d
   have W:=Ki M.head;rw[ha,if_pos (by omega)]at W;have e2:=Zcu (k+1) L T;refine⟨k1,_,_,_,w.iS a,b,by simp only;omega,by simpa using D,(p.trans H).trans W,?_,V.go _ _,X⟩;simp only;rw[g];omega
  ·refine⟨k1,_,_,_,w.iS a,b,by simp only;omega,by simpa using D,p.trans H,?_,V,X⟩;rw[g];obtain rfl:k=15:=by omega
   rfl
 |succ z ih =>
  intro k s r q hx l F B P K A I U Z J m d;have S:k<16:=by omega
  have u:=E k S;rw[←m]at u;have Q:Sr.get q (32+(loops:Int))=x:=by unfold Sr.get;rw[show (32+(loops:Int)).toNat=32+loops by omega];exact d
  have p:=Ki u.head;rw[Q,if_neg (by omega)]at p;have G:At aA (q.pc+1) (Bu.em es j s.stack.length ((loops+1:Nat):Int)):=by rw[l];exact u.tail
  obtain⟨k1,t,n,y,w,v,e3,D,H,f,R,o⟩:=N s (z+1) r { q with pc:=q.pc+1,steps:=q.steps+1 } (loops+1) F B P K A I U Z (J.go _ _) G;obtain⟨a,b⟩:=v.left (Y:=⟨fl.getD j [],0,z⟩::r) Sp;have V:dh { t with aD:=⟨fl.getD j [],0,z⟩::r } y:=R.iS t.funcs (⟨fl.getD j [],0,z⟩::r) t.steps t.aM t.ai t.br;have X:dy loops q y:=fun i hi=>o i (by omega)
  rw[l]at f;have g:y.pc=e+(k+1)*(1+L):=by
   rw[f,Nat.succ_mul]
   show q.pc+1+(Bu.em es j h ((loops:Int)+1)).length=_
   rw[O,m];omega
  have q':(t.stack.length:Int)=s.stack.length:=by omega
  have mm:(((z+1:Nat):Int)+1)*c.steps=((z:Int)+1)*c.steps+c.steps:=by rw[Int.add_mul];simp
  obtain⟨k',t',n',q2,f1,f2,f3,f4,f5,f6,f7,f8⟩:=ih (k+1) { t with aD:=⟨fl.getD j [],0,z⟩::r } r y (by omega) (by simp only;omega) rfl v.en v.er (v.fu.trans K) (by simp only;omega) (by simp only;omega) U Z V g (by rw[o loops (by omega)];exact d);exact⟨k1+k',t',_,q2,(w.iS a).trans f1,b.trans f2 (Int.le_refl _) (by simp only;omega),by rw[f3];simp only;omega,by rw[mm];omega,(p.trans H).trans f5,f6,f7,X.trans f8⟩
end Sm
namespace Bu
def st (fs:List Bd.aa)(ps:List aq) (l:List (Int×Int)) (i:Nat):gj:=bL fs ps (l.take i) 0 (start l.length)
theorem Xo (fs:List Bd.aa)(ps:List aq) (l r:List (Int×Int)):∀(i:Nat) (s:gj),bL fs ps (l++r) i s=bL fs ps r (i+l.length) (bL fs ps l i s):=by
 induction l with
 |nil=>intro i s;rfl
 |cons x l ih =>
  intro i s;rw[List.cons_append,bL,bL,ih,List.length_cons,Nat.add_assoc,Nat.add_comm 1]
theorem dJ (fs:List Bd.aa)(ps:List aq) {l:List (Int×Int)} {i:Nat} {x:Int×Int} (h:l[i]?=some x):st fs ps l (i+1)=bz fs ps i x (st fs ps l i):=by
 have hi:=(List.getElem?_eq_some_iff.1 h).1;unfold st;rw[List.take_add_one,h,Option.toList_some,Xo,List.length_take,Nat.min_eq_left (Nat.le_of_lt hi),Nat.zero_add];rfl
structure Len (n:Nat) (s:gj):Prop where
 aR:s.aR.length=n+1
 aC:s.aC.length=n+1
 index:s.index.length=n+1
theorem Uu (fs:List Bd.aa)(ps:List aq) (l:List (Int×Int)):∀i,i≤l.length→Len l.length (st fs ps l i):=by
 intro i
 induction i with
 |zero=>intro _;exact⟨by simp[st,bL,start],by simp[st,bL,start],by simp[st,bL,start]⟩
 |succ i ih =>
  intro hi;obtain⟨x,y⟩:∃x,l[i]?=some x:=⟨_,List.getElem?_eq_getElem (by omega)⟩;rw[dJ fs ps y];have h:=ih (by omega);unfold bz;split
  ·exact h
  ·refine⟨?_,?_,?_⟩
   ·dsimp only;split <;> simp[h.aR]
   ·dsimp only;split <;> simp[h.aC]
   ·simp[h.index]
theorem getD_set_ne {α:Type}{l:List α}{i k:Nat}(a d:α)(h:i≠k):(l.set i a).getD k d=l.getD k d:=by
 simp only[List.getD_eq_getElem?_getD,List.getElem?_set,h,if_false]
theorem El {α:Type}{l:List α}{i:Nat}(a d:α)(h:i<l.length):(l.set i a).getD i d=a:=by
 simp[List.getD_eq_getElem?_getD,h]
theorem Zas (fs:List Bd.aa)(ps:List aq)(i:Nat)(x:Int×Int)(s:gj)(k:Nat)(y:k≤i):(bz fs ps i x s).aR.getD k false=s.aR.getD k false∧(bz fs ps i x s).aC.getD k 0=s.aC.getD k 0:=by
 unfold bz;split
 ·exact⟨rfl,rfl⟩
 ·dsimp only;refine⟨?_,?_⟩
  ·split
   ·rw[getD_set_ne _ _ (by omega)]
   ·rw[getD_set_ne _ _ (by omega),getD_set_ne _ _ (by omega)]
  ·split
   ·rw[getD_set_ne _ _ (by omega)]
   ·rw[getD_set_ne _ _ (by omega),getD_set_ne _ _ (by omega)]
theorem Td (fs:List Bd.aa)(ps:List aq)(i:Nat)(x:Int×Int)(s:gj)(k:Nat)(y:k≠i):(bz fs ps i x s).index.getD k 0=s.index.getD k 0:=by
 unfold bz;split
 ·rfl
 ·exact getD_set_ne _ _ (fun e=>y e.symm)
theorem st_old (fs:List Bd.aa)(ps:List aq) (l:List (Int×Int)) (k:Nat):∀d,k+d≤l.length→(st fs ps l (k+d)).aR.getD k false=(st fs ps l k).aR.getD k false∧(st fs ps l (k+d)).aC.getD k 0=(st fs ps l k).aC.getD k 0:=by
 intro d
 induction d with
 |zero=>intro _;exact⟨rfl,rfl⟩
 |succ d ih =>
  intro v;obtain⟨x,u⟩:∃x,l[k+d]?=some x:=⟨_,List.getElem?_eq_getElem (by omega)⟩;rw[←Nat.add_assoc,dJ fs ps u];obtain⟨z,y⟩:=Zas fs ps (k+d) x (st fs ps l (k+d)) k (by omega);rw[z,y];exact ih (by omega)
theorem Zev (fs:List Bd.aa)(ps:List aq) (l:List (Int×Int)) (k:Nat):∀d,k+1+d≤l.length→(st fs ps l (k+1+d)).index.getD k 0=(st fs ps l (k+1)).index.getD k 0:=by
 intro d
 induction d with
 |zero=>intro _;rfl
 |succ d ih =>
  intro z;obtain⟨x,y⟩:∃x,l[k+1+d]?=some x:=⟨_,List.getElem?_eq_getElem (by omega)⟩;rw[←Nat.add_assoc,dJ fs ps y,Td _ _ _ _ _ _ (by omega)];exact ih (by omega)
theorem Tc (fs:List Bd.aa)(ps:List aq)(i:Nat)(x:Int×Int)(s:gj):∃r,(bz fs ps i x s).steps=s.steps++r:=by
 unfold bz;split
 ·exact⟨[],by simp⟩
 ·dsimp only;split
  ·exact⟨_,rfl⟩
  ·exact⟨[],by simp⟩
theorem Ut (fs:List Bd.aa)(ps:List aq) (l:List (Int×Int)) (k:Nat):∀d,k+d≤l.length→∃r,(st fs ps l (k+d)).steps=(st fs ps l k).steps++r:=by
 intro d
 induction d with
 |zero=>intro _;exact⟨[],by simp⟩
 |succ d ih =>
  intro q;obtain⟨x,p⟩:∃x,l[k+d]?=some x:=⟨_,List.getElem?_eq_getElem (by omega)⟩;rw[←Nat.add_assoc,dJ fs ps p];obtain⟨u,v⟩:=ih (by omega);obtain⟨y,z⟩:=Tc fs ps (k+d) x (st fs ps l (k+d));exact⟨u++y,by rw[z,v,List.append_assoc]⟩
def eI (fs:List Bd.aa)(ps:List aq) (l:List (Int×Int)) (i:Nat):Nat:=(st fs ps l i).steps.length
def kn (fs:List Bd.aa)(ps:List aq) (l:List (Int×Int)) (i:Nat):Bool:=(st fs ps l i).aR.getD i false
theorem fE (fs:List Bd.aa)(ps:List aq) (l:List (Int×Int)) {i j:Nat} (h:i≤j) (y:j≤l.length):eI fs ps l i≤eI fs ps l j:=by
 obtain⟨r,x⟩:=Ut fs ps l i (j-i) (by omega);rw[show i+(j-i)=j by omega]at x;unfold eI;rw[x,List.length_append];omega
theorem go_at (fs:List Bd.aa)(ps:List aq) (l:List (Int×Int)) {t:Nat} (v:t≤l.length) (y:kn fs ps l t=true):((st fs ps l l.length).index.set l.length (st fs ps l l.length).steps.length).getD t 0=eI fs ps l t:=by
 have p:=(Uu fs ps l l.length (Nat.le_refl _)).index;by_cases u:t=l.length
 ·subst u;rw[El _ _ (by omega)];rfl
 ·rw[getD_set_ne _ _ (fun e=>u e.symm)];have z:=Zev fs ps l t (l.length-(t+1)) (by omega);rw[show t+1+(l.length-(t+1))=l.length by omega]at z;rw[z];obtain⟨x,k⟩:∃x,l[t]?=some x:=⟨_,List.getElem?_eq_getElem (by omega)⟩;rw[dJ fs ps k];unfold bz;unfold kn at y;rw[if_neg (by simpa using y)];dsimp only;rw[El _ _ (by have:=(Uu fs ps l t v).index;omega)];rfl
structure ky (fs:List Bd.aa) (ps:List aq) (l:List (Int×Int)) (p:aq) (P:List Bd.Place):Prop where
 k0:kn fs ps l 0=true
 c0:eI fs ps l 0=0
 lT:eI fs ps l l.length=p.steps.length
 aR:∀i,i≤l.length→kn fs ps l i=true→(Bd.bk P i).aR=true
 step:∀(i:Nat) x,l[i]?=some x→kn fs ps l i=true→(∀t:Nat,(t:Int)∈Bd.ways i x→kn fs ps l t=true) ∧
  ((0<sizeOf x ps∧p.steps[eI fs ps l i]?=some ⟨x.1,x.2,(Bd.bk P i).aC,eI fs ps l (i+1+jump x)⟩∧eI fs ps l (i+1)=eI fs ps l i+1)∨(sizeOf x ps≤0∧eI fs ps l (i+1)=eI fs ps l i))
theorem Yf {fs:List Bd.aa}{p:Bd.Place}{x:Int×Int}(h:1≤x.1∧x.1≤39):p.aC+bc x fs=(Bd.ay fs p x).aC:=by
 obtain⟨op,a⟩:=x;simp only at h;unfold bc Bd.ay;simp only;have y:op=1∨op=2∨op=3∨op=4∨op=5∨op=6∨op=7∨op=8∨op=9∨op=10∨op=11∨op=12∨op=13∨op=14∨op=15∨op=16∨op=17∨op=18∨op=19∨op=20∨op=21∨op=22∨op=23∨op=24∨op=25∨op=26∨op=27∨op=28∨op=29∨op=30∨op=31∨op=32∨op=33∨op=34∨op=35∨op=36∨op=37∨op=38∨op=39:=by omega
 clear h;rcases y with rfl|rfl|rfl|rfl|rfl|rfl|rfl|rfl|rfl|rfl|rfl|rfl|rfl|rfl|rfl|rfl|rfl|rfl|rfl|rfl|rfl|rfl|rfl|rfl|rfl|rfl|rfl|rfl|rfl|rfl|rfl|rfl|rfl|rfl|rfl|rfl|rfl|rfl|rfl
 all_goals (simp[Bd.ao,Bd.aO,Bd.aV,Sr.cS];try omega)
theorem Sj (fs:List Bd.aa)(ps:List aq) {l:List (Int×Int)} {i:Nat} {x:Int×Int} (q:l[i]?=some x) (s:Bd.bp l.length fs.length i x=0) (k:kn fs ps l i=true) (t:Nat) (z:(t:Int)∈Bd.ways i x):t≤l.length∧i<t∧(st fs ps l (i+1)).aR.getD t false=true∧(st fs ps l (i+1)).aC.getD t 0=(st fs ps l i).aC.getD i 0+bc x fs:=by
 have hi:=(List.getElem?_eq_some_iff.1 q).1;obtain⟨m,j,b,a⟩:=Hd.fw s hi t z;obtain rfl:t=m:=by omega
 obtain⟨n,r,g⟩:=Hd.cE s;have p:=Uu fs ps l i (by omega);have f:=p.aR;have e:=p.aC;refine⟨a,b,?_⟩;rw[dJ fs ps q];unfold kn at k;unfold bz;rw[if_neg (by simpa using k)];dsimp only;unfold Bd.ways at z;by_cases y:x.1=35
 ·have d:jump x=x.2.toNat:=by unfold jump;rw[if_pos (.inl y)]
  have:=r (.inl y);have v:t=i+1+jump x:=by
   rw[if_pos y,if_pos (by simp[Bd.az,y])]at z;simp at z;omega
  rw[if_pos y,if_pos y,←v];exact⟨El _ _ (by omega),El _ _ (by omega)⟩
 ·rw[if_neg y,if_neg y];by_cases c:t=i+1
  ·subst c;exact⟨El _ _ (by simp;omega),El _ _ (by simp;omega)⟩
  ·by_cases u:x.1=36
   ·have d:jump x=x.2.toNat:=by unfold jump;rw[if_pos (.inr u)]
    have:=r (.inr u);have v:t=i+1+jump x:=by
     rw[if_neg y,if_pos (by simp[Bd.az,u])]at z;simp only[List.mem_append,List.mem_singleton]at z;omega
    rw[←v];exact⟨by rw[getD_set_ne _ _ (by omega)];exact El _ _ (by omega),by rw[getD_set_ne _ _ (by omega)];exact El _ _ (by omega)⟩
   ·exfalso;rw[if_neg y,if_neg (by simp[Bd.az,y,u])]at z;simp at z;omega
theorem Zhh {fs:List Bd.aa}{ps:List aq} {l:List (Int×Int)} {c:Bd.aa} {P:List Bd.Place} (h:Hd.jL l.length fs l c P):∀i,i≤l.length→∀k,k≤l.length→(st fs ps l i).aR.getD k false=true→(Bd.bk P k).aR=true∧(st fs ps l i).aC.getD k 0=(Bd.bk P k).aC:=by
 intro i
 induction i with
 |zero =>
  intro _ k a z;have b:=h.p0;cases k with
  |zero=>exact⟨b.1,by simp[st,bL,start];exact b.2.1.symm⟩
  |succ k =>
   exfalso;simp[st,bL,start,List.getD_eq_getElem?_getD,List.getElem?_replicate]at z;split at z <;> simp at z
 |succ i ih =>
  intro hi k a z;obtain⟨x,q⟩:∃x,l[i]?=some x:=⟨_,List.getElem?_eq_getElem (by omega)⟩;have r:=h.ok i x q;by_cases u:kn fs ps l i=true
  ·by_cases v:(k:Int)∈Bd.ways i x
   ·obtain⟨_,_,w1,w2⟩:=Sj fs ps q r.al u k v;obtain⟨n,m⟩:=ih (by omega) i (by omega) u;obtain⟨_,_,_,o⟩:=r.kn n;obtain⟨q1,q2,_⟩:=o k v;refine⟨q1,?_⟩;rw[w2,q2,m,Yf (Hd.cE r.al).1]
   ·have d:(st fs ps l (i+1)).aR.getD k false=(st fs ps l i).aR.getD k false∧(st fs ps l (i+1)).aC.getD k 0=(st fs ps l i).aC.getD k 0:=by
     obtain⟨K,j,H⟩:=Hd.cE r.al;rw[dJ fs ps q];unfold kn at u;unfold bz;rw[if_neg (by simpa using u)];dsimp only;unfold Bd.ways at v;by_cases y:x.1=35
     ·have g:jump x=x.2.toNat:=by unfold jump;rw[if_pos (.inl y)]
      have:=j (.inl y);have p:i+1+jump x≠k:=fun e=>v (by
       rw[if_pos y,if_pos (by simp[Bd.az,y])];simp;omega)
      rw[if_pos y,if_pos y];exact⟨getD_set_ne _ _ p,getD_set_ne _ _ p⟩
     ·have f:i+1≠k:=fun e=>v (by
       rw[if_neg y];simp;omega)
      have p:i+1+jump x≠k:=fun e=>by
       by_cases s:x.1=36
       ·have g:jump x=x.2.toNat:=by unfold jump;rw[if_pos (.inr s)]
        have:=j (.inr s);exact v (by
         rw[if_neg y,if_pos (by simp[Bd.az,s])];simp;omega)
       ·have g:jump x=0:=by unfold jump;rw[if_neg (by omega)]
        omega
      rw[if_neg y,if_neg y];exact⟨by rw[getD_set_ne _ _ f,getD_set_ne _ _ p],by rw[getD_set_ne _ _ f,getD_set_ne _ _ p]⟩
    rw[d.1]at z;rw[d.2];exact ih (by omega) k a z
  ·have w:st fs ps l (i+1)=st fs ps l i:=by
    rw[dJ fs ps q];unfold bz;unfold kn at u;rw[if_pos (by simpa using u)]
   rw[w]at z ⊢;exact ih (by omega) k a z
theorem dc {fs:List Bd.aa}(ps:List aq) {l:List (Int×Int)} {c:Bd.aa} {P:List Bd.Place} (h:Hd.jL l.length fs l c P):ky fs ps l (a_ l fs ps) P:=by
 have g:(a_ l fs ps).steps=(st fs ps l l.length).steps.map fun p => { p with go:=((st fs ps l l.length).index.set l.length (st fs ps l l.length).steps.length).getD p.go 0 } := by
  unfold a_ st;rw[List.take_length]
 have o:∀(i:Nat) x,l[i]?=some x→kn fs ps l i=true→∀t:Nat,(t:Int)∈Bd.ways i x→kn fs ps l t=true:=fun i x z u t Z=>by
  obtain⟨w1,w2,X,_⟩:=Sj fs ps z (h.ok i x z).al u t Z;have:=(List.getElem?_eq_some_iff.1 z).1;obtain⟨B,_⟩:(st fs ps l t).aR.getD t false=(st fs ps l t).aR.getD t false∧True:=⟨rfl,trivial⟩;have key:∀d,i+1+d≤t→(st fs ps l (i+1+d)).aR.getD t false=true:=by
   intro d
   induction d with
   |zero=>intro _;exact X
   |succ d ih =>
    intro R;obtain⟨y,V⟩:∃y,l[i+1+d]?=some y:=⟨_,List.getElem?_eq_getElem (by omega)⟩;rw[←Nat.add_assoc,dJ fs ps V];have b:=ih (by omega);have A:=(Uu fs ps l (i+1+d) (by omega)).aR;unfold bz;split
    ·exact b
    ·dsimp only;have e:∀(m:Nat) (L:List Bool),L.getD t false=true→(L.set m true).getD t false=true:=fun m L k=>by
      simp only[List.getD_eq_getElem?_getD,List.getElem?_set]at k ⊢;by_cases H:m=t
      ·subst H;have:m<L.length:=by
        apply Classical.byContradiction;intro D;rw[List.getElem?_eq_none (by omega)]at k;cases k
       simp[this]
      ·simpa [H]using k
     split
     ·exact e _ _ b
     ·exact e _ _ (e _ _ b)
  have:=key (t-(i+1)) (by omega);rw[show i+1+(t-(i+1))=t by omega]at this;exact this
 refine⟨by simp[kn,st,bL,start],by simp[eI,st,bL,start],by rw[g,List.length_map];rfl,fun i hi u=>(Zhh h i hi i hi u).1,fun i x z u=>⟨o i x z u,?_⟩⟩;have hi:=(List.getElem?_eq_some_iff.1 z).1;have Q:=(Zhh (ps:=ps) h i (by omega) i (by omega) u).2;obtain⟨C,K,S⟩:=Hd.cE (h.ok i x z).al;have j:((i+1+jump x:Nat):Int)∈Bd.ways i x:=by
  unfold Bd.ways;by_cases v:x.1=35
  ·have f:jump x=x.2.toNat:=by unfold jump;rw[if_pos (.inl v)]
   have:=K (.inl v);rw[if_pos v,if_pos (by simp[Bd.az,v])];simp;omega
  ·by_cases s:x.1=36
   ·have f:jump x=x.2.toNat:=by unfold jump;rw[if_pos (.inr s)]
    have:=K (.inr s);rw[if_neg v,if_pos (by simp[Bd.az,s])];simp;omega
   ·have f:jump x=0:=by unfold jump;rw[if_neg (by omega)]
    rw[f,if_neg v];simp
 have Y:=o i x z u _ j;have U:=(Sj fs ps z (h.ok i x z).al u _ j).1;have q:=dJ fs ps z;unfold kn at u;unfold bz at q;rw[if_neg (by simpa using u)]at q;by_cases a:0<sizeOf x ps
 ·left
  have n:(st fs ps l (i+1)).steps=(st fs ps l i).steps++[⟨x.1,x.2,(st fs ps l i).aC.getD i 0,i+1+jump x⟩]:=by
   rw[q];dsimp only;rw[if_pos a]
  refine⟨a,?_,?_⟩
  ·obtain⟨r,w⟩:=Ut fs ps l (i+1) (l.length-(i+1)) (by omega);rw[show i+1+(l.length-(i+1))=l.length by omega,n]at w;rw[g,List.getElem?_map];have:(st fs ps l l.length).steps[eI fs ps l i]?=some ⟨x.1,x.2,(st fs ps l i).aC.getD i 0,i+1+jump x⟩:=by
    rw[w];unfold eI;rw[List.append_assoc,List.getElem?_append_right (by omega),Nat.sub_self];rfl
   rw[this];simp only[Option.map_some];rw[go_at fs ps l U Y,Q]
  ·unfold eI;rw[n,List.length_append];rfl
 ·right
  refine⟨by omega,?_⟩;unfold eI;rw[q];dsimp only;rw[if_neg a]
end Bu
end
end Go.Proofs.YtnhebmgibiomnaaGreat
