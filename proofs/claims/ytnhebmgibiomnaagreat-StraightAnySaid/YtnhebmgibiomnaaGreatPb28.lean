/- Parts of the proof, joined: BuN BuO. -/
import Derived.Test.YtnhebmgibiomnaaGreatPb27
set_option linter.unusedVariables false
set_option linter.unusedSimpArgs false
set_option maxRecDepth 100000
set_option maxHeartbeats 8000000
namespace Go.Proofs.YtnhebmgibiomnaaGreat
namespace Sm
open Mc Hd
theorem Iy {code:List Sr.Reg} {q:Sr.St} {r:Sr.Reg} {loops:Nat} {t:St} (hat:At code q.pc [r]) (h42:r.op≠42) (hl:Sr.leaps r.op=false) (hd:r.d.toNat<32∨32+loops≤r.d.toNat) (hs:∀ pc st,Sim t (Sr.deed r { q with pc:=pc,steps:=st })) :
  ∃ n q',RGoes code n q q'∧q'.pc=q.pc+[r].length∧Sim t q'∧Keep loops q q':=by
 obtain⟨h1,h2⟩:=Xn hat.head h42 hl;exact⟨1,_,h1,h2,hs _ _,Fo hd q _ _⟩
theorem Ix (es:List Bu.Emit) {op:Int} (a next loops:Int) (h:op≠1∧op≠2∧op≠3∧op≠4∧op≠35∧op≠36∧op≠37∧op≠38∧op≠39):Bu.stepE es (op,a) next loops=Bu.plainE (op,a) (next-1) (next-2):=by
 obtain⟨h1,h2,h3,h4,h5,h6,h7,h8,h9⟩:=h;unfold Bu.stepE;simp only[h1,h2,h3,h4,h5,h6,h7,h8,h9,if_false]
theorem Un {op:Int} (h:1≤op∧op≤39) (hn:op≠1∧op≠2∧op≠3∧op≠4∧op≠35∧op≠36∧op≠37∧op≠38∧op≠39) :
  ((Sr.uses op).1=3∧takes op=1∧leaves op=1)∨((Sr.uses op).1=7∧takes op=2∧leaves op=1)∨((Sr.uses op).1=6∧takes op=2∧leaves op=0)∨((op=22∨op=23∨op=24∨op=34)∧(Sr.uses op).1=0∧takes op=0∧leaves op=0):=by
 have hc:op=5∨op=6∨op=7∨op=8∨op=9∨op=10∨op=11∨op=12∨op=13∨op=14∨op=15∨op=16∨op=17∨op=18∨op=19∨op=20∨op=21∨op=22∨op=23∨op=24∨op=25∨op=26∨op=27∨op=28∨op=29∨op=30∨op=31∨op=32∨op=33∨op=34:=by omega
 clear h hn;rcases hc with rfl|rfl|rfl|rfl|rfl|rfl|rfl|rfl|rfl|rfl|rfl|rfl|rfl|rfl|rfl|rfl|rfl|rfl|rfl|rfl|rfl|rfl|rfl|rfl|rfl|rfl|rfl|rfl|rfl|rfl
 all_goals decide
theorem Da {op:Int} (h:op≠35∧op≠36∧op≠41):Sr.leaps op=false:=by
 unfold Sr.leaps;simp[h.1,h.2.1,h.2.2]
theorem Sj {s:St} (h:1≤s.stack.length):s.stack=s.stack.getD 0 0::s.stack.drop 1:=by
 cases hs:s.stack with
 | nil=>rw[hs] at h;simp at h
 | cons x r=>rfl
theorem Wa {s:St} {q:Sr.St} {code:List Sr.Reg} {es:List Bu.Emit} (h:Sim s q) {op a:Int} (hop:1≤op∧op≤39) (hc:op≠35∧op≠36∧op≠37∧op≠38) (h1:takes op≤s.stack.length) (h2:s.stack.length+leaves op≤32+takes op) (hs:s.stack.length≤32) (loops:Nat) (hl:loops≤30) {next:Int} (hnx:next=(s.stack.length:Int)) (hat:At code q.pc (Bu.stepE es (op,a) next loops)) :
  ∃ n q',RGoes code n q q'∧q'.pc=q.pc+(Bu.stepE es (op,a) next loops).length∧Sim (deed op a s) q'∧Keep loops q q':=by
 obtain⟨c35,c36,c37,c38⟩:=hc;by_cases hb:op=1∨op=2∨op=3∨op=4∨op=39
 ·rcases hb with rfl|rfl|rfl|rfl|rfl
  ·have hh:s.stack.length≤31:=by
    have:takes 1=0:=rfl;have:leaves 1=1:=rfl;omega
   exact Iy hat (by simp) (Da (by simp)) (.inl (by show next.toNat<32;omega)) fun pc st=>(h.go pc st).put a (k32 a) hnx (by omega) rfl
  ·exact⟨0,q,RGoes.refl _ _,rfl,h.drop 1,Keep.refl _ _⟩
  ·have hh:s.stack.length≤31:=by
    have:takes 3=1:=rfl;have:leaves 3=2:=rfl;omega
   have h1':1≤s.stack.length:=h1;have e:=Sj h1';refine Iy hat (by simp) (Da (by simp)) (.inl (by show next.toNat<32;omega)) fun pc st=>?_
   have:=(h.go pc st).put (s.stack.getD 0 0) (k32 (Sr.get { q with pc:=pc,steps:=st } (next-1))) hnx (by omega) (by rw[(h.go pc st).top (by omega) h1']);have e2:deed 3 a s = { s with stack:=k32 (s.stack.getD 0 0)::s.stack } := by
    show ({ s with stack:=k32 (s.stack.getD 0 0)::k32 (s.stack.getD 0 0)::s.stack.drop 1 }:St)=_
    rw[Rg h.kp.stack 0,←e]
   rw[e2];exact this
  ·have h1':2≤s.stack.length:=h1;obtain⟨g1,p1⟩:=Xn (q:=q) hat.head (by simp) (Da (by simp));generalize hq1:Sr.deed ⟨40,63,next-1,0,0⟩ { q with pc:=q.pc+1,steps:=q.steps+1 } = q1 at *;have hat2:At code q1.pc [⟨40,next-1,next-2,0,0⟩,⟨40,next-2,63,0,0⟩]:=by rw[p1];exact hat.tail
   obtain⟨g2,p2⟩:=Xn (q:=q1) hat2.head (by simp) (Da (by simp));generalize hq2:Sr.deed ⟨40,next-1,next-2,0,0⟩ { q1 with pc:=q1.pc+1,steps:=q1.steps+1 } = q2 at *;have hat3:At code q2.pc [⟨40,next-2,63,0,0⟩]:=by rw[p2];exact hat2.tail
   obtain⟨g3,p3⟩:=Xn (q:=q2) hat3.head (by simp) (Da (by simp));have k1:Keep loops q q1:=hq1 ▸ Fo (.inr (by show 32+loops≤63;omega)) q _ _;have k2:Keep loops q1 q2:=hq2 ▸ Fo (.inl (by show (next-1).toNat<32;omega)) q1 _ _;refine⟨1+1+1,_,(g1.trans g2).trans g3,by rw[p3,p2,p1];rfl,?_,(k1.trans k2).trans (Fo (.inl (by show (next-2).toNat<32;omega)) q2 _ _)⟩;have hx:=h.top (d:=next-1) (by omega) (by omega);have hy:=h.second (d:=next-2) (by omega) h1';have e1:q1 = { q with pc:=q.pc+1,steps:=q.steps+1,regs:=q.regs.set 63 (k32 (s.stack.getD 0 0)) } := by
    rw[←hq1,←hx];rfl
   have hx2:Sr.get q1 (next-2)=s.stack.getD 1 0:=by
    rw[←hy,e1];unfold Sr.get;simp only[List.getD_eq_getElem?_getD,List.getElem?_set];rw[if_neg (by omega)]
   have e2:q2 = { q1 with pc:=q1.pc+1,steps:=q1.steps+1,regs:=q1.regs.set (next-1).toNat (k32 (s.stack.getD 1 0)) } := by
    rw[←hq2,←hx2];rfl
   have hx3:Sr.get q2 63=k32 (s.stack.getD 0 0):=by
    rw[e2,e1];unfold Sr.get;simp only[List.getD_eq_getElem?_getD,List.getElem?_set,List.length_set,h.rl];rw[if_neg (by omega)];simp
   have hS1:Sim { s with stack:=s.stack.drop 2 } q1:=by
    rw[e1];have:=((h.drop 2).go (q.pc+1) (q.steps+1)).aside (k32 (s.stack.getD 0 0)) (d:=63) (by simp only[List.length_drop];omega);exact this
   have hl2:((s.stack.drop 2).length:Int)=next-2:=by simp only[List.length_drop];omega
   have hS2:=(hS1.put (s.stack.getD 0 0) (k32 (k32 (s.stack.getD 0 0))) (d:=next-2) hl2.symm (by simp only[List.length_drop];omega) (Ii _)).put (s.stack.getD 1 0) (k32 (s.stack.getD 1 0)) (d:=next-1) (by simp only[List.length_cons];omega) (by simp only[List.length_cons,List.length_drop];omega) rfl;have hfin:({ q2 with pc:=q2.pc+1,steps:=q2.steps+1,regs:=q2.regs.set (next-2).toNat (k32 (Sr.get q2 63)) }:Sr.St) = { Sr.put (Sr.put q1 (next-2) (k32 (k32 (s.stack.getD 0 0)))) (next-1) (k32 (s.stack.getD 1 0)) with pc:=q2.pc+1,steps:=q2.steps+1 } := by
    rw[hx3,e2];simp only[Sr.put];rw[List.set_comm _ _ (by omega)]
   have hgoal:Sr.deed ⟨40,next-2,63,0,0⟩ { q2 with pc:=q2.pc+1,steps:=q2.steps+1 } = { q2 with pc:=q2.pc+1,steps:=q2.steps+1,regs:=q2.regs.set (next-2).toNat (k32 (Sr.get q2 63)) } := rfl;rw[hgoal,hfin];exact hS2.go _ _
  ·have hh:s.stack.length≤31:=by
    have:takes 39=0:=rfl;have:leaves 39=1:=rfl;omega
   obtain⟨o,ho⟩:=h.co;refine Iy hat (by simp) (Da (by simp)) (.inl (by show next.toNat<32;omega)) fun pc st=>(h.go pc st).put s.size q.m.size hnx (by omega) ?_
   rw[ho];exact h.kp.size.symm
 ·have hn:op≠1∧op≠2∧op≠3∧op≠4∧op≠35∧op≠36∧op≠37∧op≠38∧op≠39:=by omega
  have hlp:Sr.leaps op=false:=Da (by omega);rw[Ix es a next loops hn] at hat ⊢;unfold Bu.plainE at hat ⊢;simp only at hat ⊢;rcases Un hop hn with⟨hu,ht,_⟩|⟨hu,ht,_⟩|⟨hu,ht,_⟩|⟨ho,hu,ht,_⟩
  ·rw[if_pos hu] at hat ⊢;exact Iy hat (by show op≠42;omega) hlp (.inl (by show (next-1).toNat<32;omega)) fun pc st=>Zek (h.go pc st) op a hu (by omega) (by omega) hs (by omega)
  ·rw[if_neg (by omega),if_pos hu] at hat ⊢;exact Iy hat (by show op≠42;omega) hlp (.inl (by show (next-2).toNat<32;omega)) fun pc st=>Zei (h.go pc st) op a hu (by omega) hs (by omega) (by omega)
  ·rw[if_neg (by omega),if_neg (by omega),if_pos hu] at hat ⊢;exact Iy hat (by show op≠42;omega) hlp (.inl (by show (0:Int).toNat<32;decide)) fun pc st=>Zej (h.go pc st) op a hu (by omega) (by omega) (by omega)
  ·rw[if_neg (by omega),if_neg (by omega),if_neg (by omega)] at hat ⊢;exact Iy hat (by show op≠42;omega) hlp (.inl (by show (0:Int).toNat<32;decide)) fun pc st=>Zv (h.go pc st) op a ho
theorem Xm {code:List Sr.Reg} {q:Sr.St} {n:Int} (h:code[q.pc]?=some ⟨35,0,0,0,n⟩):RGoes code 1 q { q with pc:=q.pc+1+n.toNat,steps:=q.steps+1 } :=
 ⟨run1 h (by simp),rfl,by show q.pc+1≤q.pc+1+n.toNat;omega⟩
theorem Tu {code:List Sr.Reg} {q:Sr.St} {a n:Int} (h:code[q.pc]?=some ⟨36,0,a,0,n⟩):RGoes code 1 q { q with pc:=if Sr.get q a=0 then q.pc+1+n.toNat else q.pc+1,steps:=q.steps+1 } := by
 have e:Sr.deed ⟨36,0,a,0,n⟩ { q with pc:=q.pc+1,steps:=q.steps+1 } = { q with pc:=if Sr.get q a=0 then q.pc+1+n.toNat else q.pc+1,steps:=q.steps+1 } := by
  show Sr.pass _ n (decide (Sr.get q a=0))=_
  unfold Sr.pass;by_cases hz:Sr.get q a=0 <;> simp[hz]
 refine⟨fun m=>by rw[run1 h (by show (36:Int)≠42;decide),e],rfl,?_⟩
 show q.pc+1≤if Sr.get q a=0 then q.pc+1+n.toNat else q.pc+1
 split <;> omega
theorem Hc {code:List Sr.Reg} {q:Sr.St} {a b n:Int} (h:code[q.pc]?=some ⟨41,0,a,b,n⟩):RGoes code 1 q { q with pc:=if Sr.get q a≤b then q.pc+1+n.toNat else q.pc+1,steps:=q.steps+1 } := by
 have e:Sr.deed ⟨41,0,a,b,n⟩ { q with pc:=q.pc+1,steps:=q.steps+1 } = { q with pc:=if Sr.get q a≤b then q.pc+1+n.toNat else q.pc+1,steps:=q.steps+1 } := by
  show Sr.pass _ n (decide (Sr.get q a≤b))=_
  unfold Sr.pass;by_cases hz:Sr.get q a≤b <;> simp[hz]
 refine⟨fun m=>by rw[run1 h (by show (41:Int)≠42;decide),e],rfl,?_⟩
 show q.pc+1≤if Sr.get q a≤b then q.pc+1+n.toNat else q.pc+1
 split <;> omega
def Yu (fl:List (List (Int×Int))) (code:List Sr.Reg) (es:List Bu.Emit) (j:Nat) (c:Bd.Cost):Prop :=
 ∀ (s:St) (m:Nat) (r:List Fm) (q:Sr.St) (loops:Nat),s.frames=⟨fl.getD j [],0,m⟩::r→s.ended=false→s.err=0→s.funcs=fl→c.need≤s.stack.length→s.stack.length+c.peak≤32→r.length+1+j≤21→loops≤r.length→Sim s q→At code q.pc (Bu.em es j s.stack.length loops) →
  ∃ k t n q',Goes k s t∧Out s t k (⟨fl.getD j [],(fl.getD j []).length,m⟩::r) (s.stack.length+c.peak)∧(t.stack.length:Int)=s.stack.length+c.delta∧(k:Int)≤c.steps∧RGoes code n q q'∧q'.pc=q.pc+(Bu.em es j s.stack.length loops).length∧Sim t q'∧Keep loops q q'
theorem Ou {l:List (Int×Int)} {m:Nat} {r:List Fm}:settle (⟨l,0,m⟩::r)=settle (⟨l,l.length,m+1⟩::r):=by
 by_cases h:0<l.length
 ·exact(Ht h).symm
 ·obtain rfl:l=[]:=List.length_eq_zero_iff.1 (by omega);rw[settle_empty];exact(settle_empty (m:=m+1)).symm
theorem Xu (k L:Nat) (hk:k<16):k*(1+L)+1+((16-(k:Int))*(1+(L:Int))-1).toNat=16*(1+L):=by
 have h:k=0∨k=1∨k=2∨k=3∨k=4∨k=5∨k=6∨k=7∨k=8∨k=9∨k=10∨k=11∨k=12∨k=13∨k=14∨k=15:=by omega
 rcases h with rfl|rfl|rfl|rfl|rfl|rfl|rfl|rfl|rfl|rfl|rfl|rfl|rfl|rfl|rfl|rfl <;> omega
theorem Zat {fl:List (List (Int×Int))} {code:List Sr.Reg} {es:List Bu.Emit} {j:Nat} {c:Bd.Cost} (hg:Yu fl code es j c) (hd:c.delta=0) (loops:Nat) (x:Int) (pc0 L h:Nat) (hL:(Bu.em es j h ((loops:Int)+1)).length=L)
  (hat:∀ i:Nat,i<16→At code (pc0+i*(1+L)) (⟨41,0,32+(loops:Int),(i:Int),(16-(i:Int))*(1+(L:Int))-1⟩::Bu.em es j h ((loops:Int)+1))) :
  ∀ (mm k:Nat) (s:St) (r:List Fm) (q:Sr.St),min x 16=(k:Int)+mm+1→s.stack.length=h→s.frames=⟨fl.getD j [],0,mm⟩::r→s.ended=false→s.err=0→s.funcs=fl→c.need≤s.stack.length→s.stack.length+c.peak≤32→r.length+1+j≤21→loops+1≤r.length→Sim s q→q.pc=pc0+k*(1+L)→q.regs.getD (32+loops) 0=x →
  ∃ kk t n q',Goes kk s t∧Out s t kk r (s.stack.length+c.peak)∧t.stack.length=s.stack.length∧(kk:Int)≤(mm+1)*c.steps∧RGoes code n q q'∧q'.pc=pc0+16*(1+L)∧Sim t q'∧Keep loops q q':=by
 intro mm
 induction mm with
 | zero =>
  intro k s r q hx hh h1 h2 h3 h4 h5 h6 h7 h8 hS hpc hcn;have hk:k<16:=by omega
  have ha:=hat k hk;rw[←hpc] at ha;have hget:Sr.get q (32+(loops:Int))=x:=by unfold Sr.get;rw[show (32+(loops:Int)).toNat=32+loops by omega];exact hcn
  have g1:=Hc ha.head;rw[hget,if_neg (by omega)] at g1;have ha2:At code (q.pc+1) (Bu.em es j s.stack.length ((loops+1:Nat):Int)):=by rw[hh];exact ha.tail
  obtain⟨k1,t,n,q',e1,e2,e3,e4,e5,e6,e7,e8⟩:=hg s 0 r { q with pc:=q.pc+1,steps:=q.steps+1 } (loops+1) h1 h2 h3 h4 h5 h6 h7 h8 (hS.go _ _) ha2;obtain⟨a,b⟩:=e2.left (Y:=r) settle_end.symm;have hS':Sim { t with frames:=r } q':=e7.eqv t.funcs r t.steps t.peak t.ended t.err;have hk8:Keep loops q q':=fun i hi=>e8 i (by omega)
  rw[hh] at e6;have hpc2:q'.pc=pc0+(k+1)*(1+L):=by
   rw[e6,Nat.succ_mul]
   show q.pc+1+(Bu.em es j h ((loops:Int)+1)).length=_
   rw[hL,hpc];omega
  have hsl:(t.stack.length:Int)=s.stack.length:=by omega
  by_cases hk1:k+1<16
  ·have ha3:=hat (k+1) hk1;rw[←hpc2] at ha3;have hget2:Sr.get q' (32+(loops:Int))=x:=by
    unfold Sr.get;rw[show (32+(loops:Int)).toNat=32+loops by omega,e8 loops (by omega)];exact hcn
   have g2:=Hc ha3.head;rw[hget2,if_pos (by omega)] at g2;have hfar:=Xu (k+1) L hk1;refine⟨k1,_,_,_,e1.eqv a,b,by simp only;omega,by simpa using e4,(g1.trans e5).trans g2,?_,hS'.go _ _,hk8⟩;simp only;rw[hpc2];omega
  ·refine⟨k1,_,_,_,e1.eqv a,b,by simp only;omega,by simpa using e4,g1.trans e5,?_,hS',hk8⟩;rw[hpc2];obtain rfl:k=15:=by omega
   rfl
 | succ mm ih =>
  intro k s r q hx hh h1 h2 h3 h4 h5 h6 h7 h8 hS hpc hcn;have hk:k<16:=by omega
  have ha:=hat k hk;rw[←hpc] at ha;have hget:Sr.get q (32+(loops:Int))=x:=by unfold Sr.get;rw[show (32+(loops:Int)).toNat=32+loops by omega];exact hcn
  have g1:=Hc ha.head;rw[hget,if_neg (by omega)] at g1;have ha2:At code (q.pc+1) (Bu.em es j s.stack.length ((loops+1:Nat):Int)):=by rw[hh];exact ha.tail
  obtain⟨k1,t,n,q',e1,e2,e3,e4,e5,e6,e7,e8⟩:=hg s (mm+1) r { q with pc:=q.pc+1,steps:=q.steps+1 } (loops+1) h1 h2 h3 h4 h5 h6 h7 h8 (hS.go _ _) ha2;obtain⟨a,b⟩:=e2.left (Y:=⟨fl.getD j [],0,mm⟩::r) Ou;have hS':Sim { t with frames:=⟨fl.getD j [],0,mm⟩::r } q':=e7.eqv t.funcs (⟨fl.getD j [],0,mm⟩::r) t.steps t.peak t.ended t.err;have hk8:Keep loops q q':=fun i hi=>e8 i (by omega)
  rw[hh] at e6;have hpc2:q'.pc=pc0+(k+1)*(1+L):=by
   rw[e6,Nat.succ_mul]
   show q.pc+1+(Bu.em es j h ((loops:Int)+1)).length=_
   rw[hL,hpc];omega
  have hsl:(t.stack.length:Int)=s.stack.length:=by omega
  have hms:(((mm+1:Nat):Int)+1)*c.steps=((mm:Int)+1)*c.steps+c.steps:=by rw[Int.add_mul];simp
  obtain⟨k',t',n',q2,f1,f2,f3,f4,f5,f6,f7,f8⟩:=ih (k+1) { t with frames:=⟨fl.getD j [],0,mm⟩::r } r q' (by omega) (by simp only;omega) rfl e2.en e2.er (e2.fu.trans h4) (by simp only;omega) (by simp only;omega) h7 h8 hS' hpc2 (by rw[e8 loops (by omega)];exact hcn);exact⟨k1+k',t',_,q2,(e1.eqv a).trans f1,b.trans f2 (Int.le_refl _) (by simp only;omega),by rw[f3];simp only;omega,by rw[hms];omega,(g1.trans e5).trans f5,f6,f7,hk8.trans f8⟩
end Sm
end Go.Proofs.YtnhebmgibiomnaaGreat
namespace Go.Proofs.YtnhebmgibiomnaaGreat
namespace Bu
def st (fs:List Bd.Cost) (ps:List Plan) (l:List (Int×Int)) (i:Nat):PSt:=planGo fs ps (l.take i) 0 (start l.length)
theorem Ta (fs:List Bd.Cost) (ps:List Plan) (l r:List (Int×Int)):∀ (i:Nat) (s:PSt),planGo fs ps (l++r) i s=planGo fs ps r (i+l.length) (planGo fs ps l i s):=by
 induction l with
 | nil=>intro i s;rfl
 | cons x l ih =>
  intro i s;rw[List.cons_append,planGo,planGo,ih,List.length_cons,Nat.add_assoc,Nat.add_comm 1]
theorem st_succ (fs:List Bd.Cost) (ps:List Plan) {l:List (Int×Int)} {i:Nat} {x:Int×Int} (h:l[i]?=some x):st fs ps l (i+1)=plan1 fs ps i x (st fs ps l i):=by
 have hi:=(List.getElem?_eq_some_iff.1 h).1;unfold st;rw[List.take_add_one,h,Option.toList_some,Ta,List.length_take,Nat.min_eq_left (Nat.le_of_lt hi),Nat.zero_add];rfl
structure Len (n:Nat) (s:PSt):Prop where
 known:s.known.length=n+1
 high:s.high.length=n+1
 index:s.index.length=n+1
theorem Ql (fs:List Bd.Cost) (ps:List Plan) (l:List (Int×Int)):∀ i,i≤l.length→Len l.length (st fs ps l i):=by
 intro i
 induction i with
 | zero=>intro _;exact⟨by simp[st,planGo,start],by simp[st,planGo,start],by simp[st,planGo,start]⟩
 | succ i ih =>
  intro hi;obtain⟨x,hx⟩:∃ x,l[i]?=some x:=⟨_,List.getElem?_eq_getElem (by omega)⟩;rw[st_succ fs ps hx];have h:=ih (by omega);unfold plan1;split
  ·exact h
  ·refine⟨?_,?_,?_⟩
   ·dsimp only;split <;> simp[h.known]
   ·dsimp only;split <;> simp[h.high]
   ·simp[h.index]
theorem Ax {α:Type} {l:List α} {i k:Nat} (a d:α) (h:i≠k):(l.set i a).getD k d=l.getD k d:=by
 simp only[List.getD_eq_getElem?_getD,List.getElem?_set,h,if_false]
theorem Cm {α:Type} {l:List α} {i:Nat} (a d:α) (h:i<l.length):(l.set i a).getD i d=a:=by
 simp[List.getD_eq_getElem?_getD,h]
theorem Vz (fs:List Bd.Cost) (ps:List Plan) (i:Nat) (x:Int×Int) (s:PSt) (k:Nat) (hk:k≤i):(plan1 fs ps i x s).known.getD k false=s.known.getD k false∧(plan1 fs ps i x s).high.getD k 0=s.high.getD k 0:=by
 unfold plan1;split
 ·exact⟨rfl,rfl⟩
 ·dsimp only;refine⟨?_,?_⟩
  ·split
   ·rw[Ax _ _ (by omega)]
   ·rw[Ax _ _ (by omega),Ax _ _ (by omega)]
  ·split
   ·rw[Ax _ _ (by omega)]
   ·rw[Ax _ _ (by omega),Ax _ _ (by omega)]
theorem Pc (fs:List Bd.Cost) (ps:List Plan) (i:Nat) (x:Int×Int) (s:PSt) (k:Nat) (hk:k≠i):(plan1 fs ps i x s).index.getD k 0=s.index.getD k 0:=by
 unfold plan1;split
 ·rfl
 ·exact Ax _ _ (fun e=>hk e.symm)
theorem st_old (fs:List Bd.Cost) (ps:List Plan) (l:List (Int×Int)) (k:Nat):∀ d,k+d≤l.length→(st fs ps l (k+d)).known.getD k false=(st fs ps l k).known.getD k false∧(st fs ps l (k+d)).high.getD k 0=(st fs ps l k).high.getD k 0:=by
 intro d
 induction d with
 | zero=>intro _;exact⟨rfl,rfl⟩
 | succ d ih =>
  intro hd;obtain⟨x,hx⟩:∃ x,l[k+d]?=some x:=⟨_,List.getElem?_eq_getElem (by omega)⟩;rw[←Nat.add_assoc,st_succ fs ps hx];obtain⟨h1,h2⟩:=Vz fs ps (k+d) x (st fs ps l (k+d)) k (by omega);rw[h1,h2];exact ih (by omega)
theorem Zq (fs:List Bd.Cost) (ps:List Plan) (l:List (Int×Int)) (k:Nat):∀ d,k+1+d≤l.length→(st fs ps l (k+1+d)).index.getD k 0=(st fs ps l (k+1)).index.getD k 0:=by
 intro d
 induction d with
 | zero=>intro _;rfl
 | succ d ih =>
  intro hd;obtain⟨x,hx⟩:∃ x,l[k+1+d]?=some x:=⟨_,List.getElem?_eq_getElem (by omega)⟩;rw[←Nat.add_assoc,st_succ fs ps hx,Pc _ _ _ _ _ _ (by omega)];exact ih (by omega)
theorem Pb (fs:List Bd.Cost) (ps:List Plan) (i:Nat) (x:Int×Int) (s:PSt):∃ r,(plan1 fs ps i x s).steps=s.steps++r:=by
 unfold plan1;split
 ·exact⟨[],by simp⟩
 ·dsimp only;split
  ·exact⟨_,rfl⟩
  ·exact⟨[],by simp⟩
theorem Qk (fs:List Bd.Cost) (ps:List Plan) (l:List (Int×Int)) (k:Nat):∀ d,k+d≤l.length→∃ r,(st fs ps l (k+d)).steps=(st fs ps l k).steps++r:=by
 intro d
 induction d with
 | zero=>intro _;exact⟨[],by simp⟩
 | succ d ih =>
  intro hd;obtain⟨x,hx⟩:∃ x,l[k+d]?=some x:=⟨_,List.getElem?_eq_getElem (by omega)⟩;rw[←Nat.add_assoc,st_succ fs ps hx];obtain⟨r1,h1⟩:=ih (by omega);obtain⟨r2,h2⟩:=Pb fs ps (k+d) x (st fs ps l (k+d));exact⟨r1++r2,by rw[h2,h1,List.append_assoc]⟩
def cnt (fs:List Bd.Cost) (ps:List Plan) (l:List (Int×Int)) (i:Nat):Nat:=(st fs ps l i).steps.length
def kn (fs:List Bd.Cost) (ps:List Plan) (l:List (Int×Int)) (i:Nat):Bool:=(st fs ps l i).known.getD i false
theorem cnt_mono (fs:List Bd.Cost) (ps:List Plan) (l:List (Int×Int)) {i j:Nat} (h:i≤j) (hj:j≤l.length):cnt fs ps l i≤cnt fs ps l j:=by
 obtain⟨r,hr⟩:=Qk fs ps l i (j-i) (by omega);rw[show i+(j-i)=j by omega] at hr;unfold cnt;rw[hr,List.length_append];omega
theorem go_at (fs:List Bd.Cost) (ps:List Plan) (l:List (Int×Int)) {t:Nat} (ht:t≤l.length) (hk:kn fs ps l t=true):((st fs ps l l.length).index.set l.length (st fs ps l l.length).steps.length).getD t 0=cnt fs ps l t:=by
 have hlen:=(Ql fs ps l l.length (Nat.le_refl _)).index;by_cases htl:t=l.length
 ·subst htl;rw[Cm _ _ (by omega)];rfl
 ·rw[Ax _ _ (fun e=>htl e.symm)];have h1:=Zq fs ps l t (l.length-(t+1)) (by omega);rw[show t+1+(l.length-(t+1))=l.length by omega] at h1;rw[h1];obtain⟨x,hx⟩:∃ x,l[t]?=some x:=⟨_,List.getElem?_eq_getElem (by omega)⟩;rw[st_succ fs ps hx];unfold plan1;unfold kn at hk;rw[if_neg (by simpa using hk)];dsimp only;rw[Cm _ _ (by have:=(Ql fs ps l t ht).index;omega)];rfl
structure PlanOf (fs:List Bd.Cost) (ps:List Plan) (l:List (Int×Int)) (p:Plan) (P:List Bd.Place):Prop where
 k0:kn fs ps l 0=true
 c0:cnt fs ps l 0=0
 fin:cnt fs ps l l.length=p.steps.length
 known:∀ i,i≤l.length→kn fs ps l i=true→(Bd.pat P i).known=true
 step:∀ (i:Nat) x,l[i]?=some x→kn fs ps l i=true→(∀ t:Nat,(t:Int)∈Bd.ways i x→kn fs ps l t=true) ∧
  ((0<sizeOf x ps∧p.steps[cnt fs ps l i]?=some ⟨x.1,x.2,(Bd.pat P i).high,cnt fs ps l (i+1+jump x)⟩∧cnt fs ps l (i+1)=cnt fs ps l i+1)∨(sizeOf x ps≤0∧cnt fs ps l (i+1)=cnt fs ps l i))
theorem Tt {fs:List Bd.Cost} {p:Bd.Place} {x:Int×Int} (h:1≤x.1∧x.1≤39):p.high+growth x fs=(Bd.effect fs p x).high:=by
 obtain⟨op,a⟩:=x;simp only at h;unfold growth Bd.effect;simp only;have hc:op=1∨op=2∨op=3∨op=4∨op=5∨op=6∨op=7∨op=8∨op=9∨op=10∨op=11∨op=12∨op=13∨op=14∨op=15∨op=16∨op=17∨op=18∨op=19∨op=20∨op=21∨op=22∨op=23∨op=24∨op=25∨op=26∨op=27∨op=28∨op=29∨op=30∨op=31∨op=32∨op=33∨op=34∨op=35∨op=36∨op=37∨op=38∨op=39:=by omega
 clear h;rcases hc with rfl|rfl|rfl|rfl|rfl|rfl|rfl|rfl|rfl|rfl|rfl|rfl|rfl|rfl|rfl|rfl|rfl|rfl|rfl|rfl|rfl|rfl|rfl|rfl|rfl|rfl|rfl|rfl|rfl|rfl|rfl|rfl|rfl|rfl|rfl|rfl|rfl|rfl|rfl
 all_goals (simp[Bd.calls,Bd.takes,Bd.leaves,Sr.uses];try omega)
theorem Om (fs:List Bd.Cost) (ps:List Plan) {l:List (Int×Int)} {i:Nat} {x:Int×Int} (hx:l[i]?=some x) (hal:Bd.always l.length fs.length i x=0) (hk:kn fs ps l i=true) (t:Nat) (ht:(t:Int)∈Bd.ways i x):t≤l.length∧i<t∧(st fs ps l (i+1)).known.getD t false=true∧(st fs ps l (i+1)).high.getD t 0=(st fs ps l i).high.getD i 0+growth x fs:=by
 have hi:=(List.getElem?_eq_some_iff.1 hx).1;obtain⟨m,hm,h1,h2⟩:=Hd.ways_nat hal hi t ht;obtain rfl:t=m:=by omega
 obtain⟨a1,a2,a3⟩:=Hd.always_ok hal;have hlen:=Ql fs ps l i (by omega);have hkl:=hlen.known;have hhl:=hlen.high;refine⟨h2,h1,?_⟩;rw[st_succ fs ps hx];unfold kn at hk;unfold plan1;rw[if_neg (by simpa using hk)];dsimp only;unfold Bd.ways at ht;by_cases h35:x.1=35
 ·have hj:jump x=x.2.toNat:=by unfold jump;rw[if_pos (.inl h35)]
  have:=a2 (.inl h35);have ht2:t=i+1+jump x:=by
   rw[if_pos h35,if_pos (by simp[Bd.jumps,h35])] at ht;simp at ht;omega
  rw[if_pos h35,if_pos h35,←ht2];exact⟨Cm _ _ (by omega),Cm _ _ (by omega)⟩
 ·rw[if_neg h35,if_neg h35];by_cases hti:t=i+1
  ·subst hti;exact⟨Cm _ _ (by simp;omega),Cm _ _ (by simp;omega)⟩
  ·by_cases h36:x.1=36
   ·have hj:jump x=x.2.toNat:=by unfold jump;rw[if_pos (.inr h36)]
    have:=a2 (.inr h36);have ht2:t=i+1+jump x:=by
     rw[if_neg h35,if_pos (by simp[Bd.jumps,h36])] at ht;simp only[List.mem_append,List.mem_singleton] at ht;omega
    rw[←ht2];exact⟨by rw[Ax _ _ (by omega)];exact Cm _ _ (by omega),by rw[Ax _ _ (by omega)];exact Cm _ _ (by omega)⟩
   ·exfalso;rw[if_neg h35,if_neg (by simp[Bd.jumps,h35,h36])] at ht;simp at ht;omega
theorem Zbt {fs:List Bd.Cost} {ps:List Plan} {l:List (Int×Int)} {c:Bd.Cost} {P:List Bd.Place} (h:Hd.Tab l.length fs l c P):∀ i,i≤l.length→∀ k,k≤l.length→(st fs ps l i).known.getD k false=true→(Bd.pat P k).known=true∧(st fs ps l i).high.getD k 0=(Bd.pat P k).high:=by
 intro i
 induction i with
 | zero =>
  intro _ k hk hkn;have h0:=h.p0;cases k with
  | zero=>exact⟨h0.1,by simp[st,planGo,start];exact h0.2.1.symm⟩
  | succ k =>
   exfalso;simp[st,planGo,start,List.getD_eq_getElem?_getD,List.getElem?_replicate] at hkn;split at hkn <;> simp at hkn
 | succ i ih =>
  intro hi k hk hkn;obtain⟨x,hx⟩:∃ x,l[i]?=some x:=⟨_,List.getElem?_eq_getElem (by omega)⟩;have hok:=h.ok i x hx;by_cases hki:kn fs ps l i=true
  ·by_cases hw:(k:Int)∈Bd.ways i x
   ·obtain⟨_,_,w1,w2⟩:=Om fs ps hx hok.al hki k hw;obtain⟨p1,p2⟩:=ih (by omega) i (by omega) hki;obtain⟨_,_,_,b4⟩:=hok.kn p1;obtain⟨q1,q2,_⟩:=b4 k hw;refine⟨q1,?_⟩;rw[w2,q2,p2,Tt (Hd.always_ok hok.al).1]
   ·have hold:(st fs ps l (i+1)).known.getD k false=(st fs ps l i).known.getD k false∧(st fs ps l (i+1)).high.getD k 0=(st fs ps l i).high.getD k 0:=by
     obtain⟨a1,a2,a3⟩:=Hd.always_ok hok.al;rw[st_succ fs ps hx];unfold kn at hki;unfold plan1;rw[if_neg (by simpa using hki)];dsimp only;unfold Bd.ways at hw;by_cases h35:x.1=35
     ·have hj:jump x=x.2.toNat:=by unfold jump;rw[if_pos (.inl h35)]
      have:=a2 (.inl h35);have hne:i+1+jump x≠k:=fun e=>hw (by
       rw[if_pos h35,if_pos (by simp[Bd.jumps,h35])];simp;omega)
      rw[if_pos h35,if_pos h35];exact⟨Ax _ _ hne,Ax _ _ hne⟩
     ·have hne1:i+1≠k:=fun e=>hw (by
       rw[if_neg h35];simp;omega)
      have hne:i+1+jump x≠k:=fun e=>by
       by_cases h36:x.1=36
       ·have hj:jump x=x.2.toNat:=by unfold jump;rw[if_pos (.inr h36)]
        have:=a2 (.inr h36);exact hw (by
         rw[if_neg h35,if_pos (by simp[Bd.jumps,h36])];simp;omega)
       ·have hj:jump x=0:=by unfold jump;rw[if_neg (by omega)]
        omega
      rw[if_neg h35,if_neg h35];exact⟨by rw[Ax _ _ hne1,Ax _ _ hne],by rw[Ax _ _ hne1,Ax _ _ hne]⟩
    rw[hold.1] at hkn;rw[hold.2];exact ih (by omega) k hk hkn
  ·have he:st fs ps l (i+1)=st fs ps l i:=by
    rw[st_succ fs ps hx];unfold plan1;unfold kn at hki;rw[if_pos (by simpa using hki)]
   rw[he] at hkn ⊢;exact ih (by omega) k hk hkn
theorem planned_of {fs:List Bd.Cost} (ps:List Plan) {l:List (Int×Int)} {c:Bd.Cost} {P:List Bd.Place} (h:Hd.Tab l.length fs l c P):PlanOf fs ps l (planned l fs ps) P:=by
 have hpl:(planned l fs ps).steps=(st fs ps l l.length).steps.map fun p => { p with go:=((st fs ps l l.length).index.set l.length (st fs ps l l.length).steps.length).getD p.go 0 } := by
  unfold planned st;rw[List.take_length]
 have hwk:∀ (i:Nat) x,l[i]?=some x→kn fs ps l i=true→∀ t:Nat,(t:Int)∈Bd.ways i x→kn fs ps l t=true:=fun i x hx hk t ht=>by
  obtain⟨w1,w2,w3,_⟩:=Om fs ps hx (h.ok i x hx).al hk t ht;have:=(List.getElem?_eq_some_iff.1 hx).1;obtain⟨hs1,_⟩:(st fs ps l t).known.getD t false=(st fs ps l t).known.getD t false∧True:=⟨rfl,trivial⟩;have key:∀ d,i+1+d≤t→(st fs ps l (i+1+d)).known.getD t false=true:=by
   intro d
   induction d with
   | zero=>intro _;exact w3
   | succ d ih =>
    intro hd;obtain⟨y,hy⟩:∃ y,l[i+1+d]?=some y:=⟨_,List.getElem?_eq_getElem (by omega)⟩;rw[←Nat.add_assoc,st_succ fs ps hy];have hp:=ih (by omega);have hlen:=(Ql fs ps l (i+1+d) (by omega)).known;unfold plan1;split
    ·exact hp
    ·dsimp only;have hset:∀ (m:Nat) (L:List Bool),L.getD t false=true→(L.set m true).getD t false=true:=fun m L hL=>by
      simp only[List.getD_eq_getElem?_getD,List.getElem?_set] at hL ⊢;by_cases hm:m=t
      ·subst hm;have:m<L.length:=by
        apply Classical.byContradiction;intro hc;rw[List.getElem?_eq_none (by omega)] at hL;cases hL
       simp[this]
      ·simpa [hm] using hL
     split
     ·exact hset _ _ hp
     ·exact hset _ _ (hset _ _ hp)
  have:=key (t-(i+1)) (by omega);rw[show i+1+(t-(i+1))=t by omega] at this;exact this
 refine⟨by simp[kn,st,planGo,start],by simp[cnt,st,planGo,start],by rw[hpl,List.length_map];rfl,fun i hi hk=>(Zbt h i hi i hi hk).1,fun i x hx hk=>⟨hwk i x hx hk,?_⟩⟩;have hi:=(List.getElem?_eq_some_iff.1 hx).1;have hhigh:=(Zbt (ps:=ps) h i (by omega) i (by omega) hk).2;obtain⟨a1,a2,a3⟩:=Hd.always_ok (h.ok i x hx).al;have htl:((i+1+jump x:Nat):Int)∈Bd.ways i x:=by
  unfold Bd.ways;by_cases h35:x.1=35
  ·have hj:jump x=x.2.toNat:=by unfold jump;rw[if_pos (.inl h35)]
   have:=a2 (.inl h35);rw[if_pos h35,if_pos (by simp[Bd.jumps,h35])];simp;omega
  ·by_cases h36:x.1=36
   ·have hj:jump x=x.2.toNat:=by unfold jump;rw[if_pos (.inr h36)]
    have:=a2 (.inr h36);rw[if_neg h35,if_pos (by simp[Bd.jumps,h36])];simp;omega
   ·have hj:jump x=0:=by unfold jump;rw[if_neg (by omega)]
    rw[hj,if_neg h35];simp
 have htk:=hwk i x hx hk _ htl;have htn:=(Om fs ps hx (h.ok i x hx).al hk _ htl).1;have hs:=st_succ fs ps hx;unfold kn at hk;unfold plan1 at hs;rw[if_neg (by simpa using hk)] at hs;by_cases hz:0<sizeOf x ps
 ·left
  have hst:(st fs ps l (i+1)).steps=(st fs ps l i).steps++[⟨x.1,x.2,(st fs ps l i).high.getD i 0,i+1+jump x⟩]:=by
   rw[hs];dsimp only;rw[if_pos hz]
  refine⟨hz,?_,?_⟩
  ·obtain⟨r,hr⟩:=Qk fs ps l (i+1) (l.length-(i+1)) (by omega);rw[show i+1+(l.length-(i+1))=l.length by omega,hst] at hr;rw[hpl,List.getElem?_map];have:(st fs ps l l.length).steps[cnt fs ps l i]?=some ⟨x.1,x.2,(st fs ps l i).high.getD i 0,i+1+jump x⟩:=by
    rw[hr];unfold cnt;rw[List.append_assoc,List.getElem?_append_right (by omega),Nat.sub_self];rfl
   rw[this];simp only[Option.map_some];rw[go_at fs ps l htn htk,hhigh]
  ·unfold cnt;rw[hst,List.length_append];rfl
 ·right
  refine⟨by omega,?_⟩;unfold cnt;rw[hs];dsimp only;rw[if_neg hz]
end Bu
end Go.Proofs.YtnhebmgibiomnaaGreat
