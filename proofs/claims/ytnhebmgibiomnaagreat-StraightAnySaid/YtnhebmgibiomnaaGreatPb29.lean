/- Parts of the proof, joined: BuP BuQ BuR. -/
import Derived.Test.YtnhebmgibiomnaaGreatPb20
import Derived.Test.YtnhebmgibiomnaaGreatPb28
set_option linter.unusedVariables false
set_option linter.unusedSimpArgs false
set_option maxRecDepth 100000
set_option maxHeartbeats 8000000
namespace Go.Proofs.YtnhebmgibiomnaaGreat
namespace Sm
open Mc Hd
theorem At.piece {code:List Sr.Reg} {g:Nat→List Sr.Reg} {ls:List (List Sr.Reg)} (hl:∀ k,(g k).length=(ls.getD k []).length):∀ (n pc:Nat),n≤ls.length→At code pc ((List.range n).flatMap g)→((List.range n).flatMap g).length=Bu.begins ls n∧∀ k,k<n→At code (pc+Bu.begins ls k) (g k):=by
 intro n
 induction n with
 | zero=>intro pc _ _;exact⟨by simp[Bu.begins],fun k hk=>by omega⟩
 | succ n ih =>
  intro pc hn h;rw[List.range_succ,List.flatMap_append,List.flatMap_singleton] at h ⊢;obtain⟨h1,h2⟩:=ih pc (by omega) h.left;have hb:=(Bu.begins_succ ls (i:=n) (l:=ls.getD n []) (by rw[List.getD_eq_getElem?_getD,List.getElem?_eq_getElem (by omega)];rfl)).1;refine⟨by rw[List.length_append,h1,hb,hl n],fun k hk=>?_⟩;by_cases hkn:k<n
  ·exact h2 k hkn
  ·obtain rfl:k=n:=by omega
   rw[←h1];exact h.right
theorem Rb {op:Int} (h:¬ (op=35∨op=36)):Bu.isJump op=false:=by unfold Bu.isJump;simpa using h
theorem Nk (body:List Sr.Reg) (top loops:Int):(Bu.loopE body top loops).length=1+16*(1+body.length):=by
 unfold Bu.loopE;rw[List.length_cons,List.length_flatMap,show List.range 16=[0,1,2,3,4,5,6,7,8,9,10,11,12,13,14,15] from rfl];simp;omega
theorem Qx {fl:List (List (Int×Int))} {l:List (Int×Int)} {fs:List Bd.Cost} {ps:List Bu.Plan} {p:Bu.Plan} {c:Bd.Cost} {P:List Bd.Place} {es:List Bu.Emit} {code:List Sr.Reg} (htab:Tab l.length fs l c P) (hpl:Bu.PlanOf fs ps l p P) (hF:fs.length≤fl.length)
  (hg:∀ j cj,fs[j]?=some cj→Yu fl code es j cj∧0≤cj.steps∧0≤cj.peak) (hz:∀ j:Nat,j<fs.length→0≤(Bu.pl ps j).size∧((Bu.pl ps j).size≤0→∀ high loops,Bu.em es j high loops=[]))
  (base:Nat) (h0:Int) (loops:Nat) (hcode:At code base (Bu.emitE es p h0 loops)) :
  ∀ (d at_:Nat) (s:St) (m:Nat) (r:List Fm) (q:Sr.St),at_+d=l.length→s.frames=⟨l,at_,m⟩::r→s.ended=false→s.err=0→s.funcs=fl→Bu.kn fs ps l at_=true→(s.stack.length:Int)=h0+(Bd.pat P at_).high→c.need≤h0→h0+c.peak≤32→r.length+1+fs.length≤21→loops≤r.length→s.stack.length≤32→Sim s q→q.pc=base+Bu.begins (Bu.pieces es p h0 loops) (Bu.cnt fs ps l at_) →
  ∃ k t n q',Goes k s t∧Out s t k (⟨l,l.length,m⟩::r) (h0+c.peak)∧(t.stack.length:Int)=h0+c.delta∧(Bd.pat P at_).steps+k≤c.steps∧RGoes code n q q'∧q'.pc=base+(Bu.emitE es p h0 loops).length∧Sim t q'∧Keep loops q q':=by
 have hpn:(Bu.pieces es p h0 loops).length=p.steps.length:=Bu.pieces_len es p h0 loops;have hpc:∀ (i:Nat) s,p.steps[i]?=some s→(Bu.pieces es p h0 loops)[i]?=some (Bu.stepE es (s.op,s.a) (h0+s.high) loops):=fun i s hs=>by
  unfold Bu.pieces;rw[List.getElem?_map,hs];rfl
 obtain⟨hEl,hEp⟩:=At.piece (Bu.fixed_len (Bu.pieces es p h0 loops) p.steps) p.steps.length base (by omega) hcode;have hEl:(Bu.emitE es p h0 loops).length=Bu.begins (Bu.pieces es p h0 loops) p.steps.length:=hEl;rw[hEl];generalize Bu.pieces es p h0 loops=ls at *;intro d
 induction d using Nat.strongRecOn with
 | _ d ih =>
 intro at_ s m r q hd hfr hen her hfu hk hsl hn hp hr hlp h32 hS hq;by_cases hd0:d=0
 ·have hat:at_=l.length:=by omega
  subst hat;refine⟨0,s,0,q,⟨s,rfl,Eqv.refl hen⟩,⟨hfr,hen,her,rfl,rfl,by omega⟩,?_,?_,RGoes.refl _ _,by rw[hq,hpl.fin],hS,Keep.refl _ _⟩
  ·rw[hsl,htab.de]
  ·rw[htab.st];omega
 ·have hlt:at_<l.length:=by omega
  obtain⟨x,hx⟩:∃ x,l[at_]?=some x:=⟨l[at_],List.getElem?_eq_getElem hlt⟩;have hok:=htab.ok at_ x hx;have hkp:=hpl.known at_ (by omega) hk;obtain⟨hwk,hstp⟩:=hpl.step at_ x hx hk;obtain⟨a1,a2,a3⟩:=always_ok hok.al;obtain⟨b1,b2,b3,b4⟩:=hok.kn hkp;have ht:=Lk x.1;have hl:=Jo x.1;have hw:=ways_nat hok.al hlt;have c1:takes x.1≤s.stack.length:=by
   by_cases hc:x.1=37∨x.1=38
   ·rw[effect_call hc] at b1;simp only at b1;omega
   ·rw[effect_plain hc] at b1;simp only at b1;omega
  have c2:s.stack.length+leaves x.1≤32+takes x.1:=by
   by_cases hc:x.1=37∨x.1=38
   ·rw[effect_call hc] at b2;simp only at b2;omega
   ·rw[effect_plain hc] at b2;simp only at b2;omega
  have hstep:=Qz hfr hen hx a1 c1 c2 a2 (fun q=>by have:=a3 q;rw[hfu];omega);have hst:=Hp x.1 x.2 { s with frames:=⟨l,at_+1,m⟩::r,err:=0,ended:=false } a1.1 a1.2;have hsm:=Ju x.1 x.2 { s with frames:=⟨l,at_+1,m⟩::r,err:=0,ended:=false };obtain⟨m1,m2,m3,m4,m5⟩:=hsm;simp only at hst m1 m2 m3 m4 m5;have hSd:Sim { s with frames:=⟨l,at_+1,m⟩::r,err:=0,ended:=false } q:=hS.eqv s.funcs (⟨l,at_+1,m⟩::r) s.steps s.peak false 0;generalize hdd:deed x.1 x.2 { s with frames:=⟨l,at_+1,m⟩::r,err:=0,ended:=false } = t at *;have hgo:=Goes.one hstep m2;have hSt:∀ q2,Sim t q2→Sim { t with steps:=t.steps+1,peak:=max t.peak t.stack.length } q2:=fun q2 h=>h.eqv t.funcs t.frames (t.steps+1) (max t.peak t.stack.length) t.ended t.err
  generalize hs1:({ t with steps:=t.steps+1,peak:=max t.peak t.stack.length }:St)=s1 at *;have e1:s1.frames=t.frames:=by rw[←hs1]
  have e2:s1.stack=t.stack:=by rw[←hs1]
  have e3:s1.ended=false:=by rw[←hs1];exact m2
  have e4:s1.err=0:=by rw[←hs1];exact m3
  have e5:s1.funcs=fl:=by rw[←hs1];exact m1.trans hfu
  have e6:s1.steps=s.steps+1:=by rw[←hs1,←m4]
  have e7:s1.peak=max s.peak t.stack.length:=by rw[←hs1,←m5]
  have hO:∀ X,s1.frames=X→Out s s1 1 X (h0+c.peak):=fun X hX=>by
   refine⟨hX,e3,e4,e5.trans hfu.symm,e6,?_⟩;have:(t.stack.length:Int)≤h0+c.peak:=by
    by_cases hc:x.1=37∨x.1=38
    ·rw[effect_call hc] at b2;simp only at b2;omega
    ·rw[effect_plain hc] at b2;simp only at b2;omega
   omega
  have heh:(Bd.effect fs (Bd.pat P at_) x).high≤(Bd.effect fs (Bd.pat P at_) x).peak:=by
   by_cases hc:x.1=37∨x.1=38
   ·rw[effect_call hc];simp only;omega
   ·rw[effect_plain hc];exact Int.le_refl _
  have on:∀ (k:Nat) (s2:St) (u:Nat) (n:Nat) (q2:Sr.St),Goes k s s2→Out s s2 k (⟨l,u,m⟩::r) (h0+c.peak)→(u:Int)∈Bd.ways at_ x→(s2.stack.length:Int)=h0+(Bd.effect fs (Bd.pat P at_) x).high→(Bd.pat P at_).steps+k≤(Bd.effect fs (Bd.pat P at_) x).steps→RGoes code n q q2→q2.pc=base+Bu.begins ls (Bu.cnt fs ps l u)→Sim s2 q2→Keep loops q q2 →
    ∃ k t n q',Goes k s t∧Out s t k (⟨l,l.length,m⟩::r) (h0+c.peak)∧(t.stack.length:Int)=h0+c.delta∧(Bd.pat P at_).steps+k≤c.steps∧RGoes code n q q'∧q'.pc=base+Bu.begins ls p.steps.length∧Sim t q'∧Keep loops q q':=by
   intro k s2 u n q2 g o hu hs2 hk2 rg hq2 hS2 hK2;obtain⟨u',hu',q1,q2'⟩:=hw u hu;obtain⟨w1,w2,w3⟩:=b4 u hu;obtain⟨k',t',n',q',g',o',f1,f2,f3,f4,f5,f6⟩:=ih (l.length-u) (by omega) u s2 m r q2 (by omega) o.fr o.en o.er (o.fu.trans hfu) (hwk u hu) (by rw[hs2,w2]) hn hp hr hlp (by have:=heh;omega) hS2 hq2;exact⟨k+k',t',_,q',g.trans g',o.trans o' (Int.le_refl _) (Int.le_refl _),f1,by omega,rg.trans f3,f4,f5,hK2.trans f6⟩
  have hnx:x.1≠35→((at_+1:Nat):Int)∈Bd.ways at_ x:=fun h=>by
   unfold Bd.ways;rw[if_neg h];simp
  have own:0<Bu.sizeOf x ps→p.steps[Bu.cnt fs ps l at_]?=some ⟨x.1,x.2,(Bd.pat P at_).high,Bu.cnt fs ps l (at_+1+Bu.jump x)⟩∧Bu.cnt fs ps l (at_+1)=Bu.cnt fs ps l at_+1∧At code q.pc (Bu.fixed ls p.steps (Bu.cnt fs ps l at_))∧ls[Bu.cnt fs ps l at_]?=some (Bu.stepE es x s.stack.length loops)∧(¬ (x.1=35∨x.1=36)→Bu.fixed ls p.steps (Bu.cnt fs ps l at_)=Bu.stepE es x s.stack.length loops∧base+Bu.begins ls (Bu.cnt fs ps l (at_+1))=q.pc+(Bu.stepE es x s.stack.length loops).length):=by
   intro hpos;rcases hstp with⟨_,s2,s3⟩|⟨h,_⟩
   ·have hpce:=hpc _ _ s2;simp only at hpce;rw[←hsl,show (x.1,x.2)=x from rfl] at hpce;have hcl:=(List.getElem?_eq_some_iff.1 s2).1;refine⟨s2,s3,by rw[hq];exact hEp _ hcl,hpce,fun hj=>⟨?_,?_⟩⟩
    ·unfold Bu.fixed;simp only[s2,Rb hj,Bool.false_eq_true,if_false];rw[List.getD_eq_getElem?_getD,hpce];rfl
    ·rw[s3,(Bu.begins_succ ls hpce).1,hq];omega
   ·omega
  by_cases hc:x.1=37∨x.1=38
  ·obtain⟨q1,q2⟩:=a3 hc;obtain⟨j,hj⟩:∃ j:Nat,x.2=j:=⟨x.2.toNat,by omega⟩;have hjl:j<fs.length:=by omega
   obtain⟨cj,hcj⟩:∃ cj,fs[j]?=some cj:=⟨fs[j],List.getElem?_eq_getElem hjl⟩;obtain⟨hG,hs0,hp0⟩:=hg j cj hcj;have hfn:Bd.fn fs x.2=cj:=by unfold Bd.fn;rw[hj,List.getD_eq_getElem?_getD,Int.toNat_natCast,hcj];rfl
   have hnx:=hnx (by omega);have hef:=effect_call (fs:=fs) (p:=Bd.pat P at_) hc;rw[hfn] at hef;rw[hef] at b1 b2;simp only at b1 b2;rcases hc with hc|hc
   ·have htk:takes x.1=0∧leaves x.1=0:=by rw[hc];exact⟨rfl,rfl⟩
    have htt:t = { s with frames:=⟨fl.getD j [],0,0⟩::⟨l,at_+1,m⟩::r,err:=0,ended:=false } := by
     rw[←hdd,hc,hj]
     show call _ (j:Int) 1=_
     unfold call;rw[if_pos (by omega)];simp only[Int.toNat_natCast,hfu];rfl
    have hfr1:s1.frames=⟨fl.getD j [],0,0⟩::⟨l,at_+1,m⟩::r:=by rw[e1,htt]
    have hS1:Sim s1 q:=hSt q (by rw[htt];exact hSd.eqv s.funcs (⟨fl.getD j [],0,0⟩::⟨l,at_+1,m⟩::r) s.steps s.peak false 0);have hem:At code q.pc (Bu.em es j s1.stack.length loops)∧base+Bu.begins ls (Bu.cnt fs ps l (at_+1))=q.pc+(Bu.em es j s1.stack.length loops).length:=by
     have hsle:(s1.stack.length:Int)=s.stack.length:=by rw[e2];omega
     rw[hsle];have hstE:Bu.stepE es x s.stack.length loops=Bu.em es j s.stack.length loops:=by
      unfold Bu.stepE;rw[hc,hj];simp
     by_cases hpos:0<Bu.sizeOf x ps
     ·obtain⟨_,_,o3,_,o5⟩:=own hpos;obtain⟨o6,o7⟩:=o5 (by omega);rw[o6,hstE] at o3;rw[hstE] at o7;exact⟨o3,o7⟩
     ·have hsz:Bu.sizeOf x ps=(Bu.pl ps j).size:=by
       unfold Bu.sizeOf;rw[hc,hj];simp
      have he:=(hz j hjl).2 (by omega) s.stack.length loops;rw[he];rcases hstp with⟨h,_⟩|⟨_,h⟩
      ·omega
      ·rw[h,hq];exact⟨fun i r hr=>by simp at hr,rfl⟩
    obtain⟨k1,t1,n1,q1',g1,o1,f1,f2,f3,f4,f5,f6⟩:=hG s1 0 _ q loops hfr1 e3 e4 e5 (by rw[e2];omega) (by rw[e2];omega) (by simp only[List.length_cons];omega) (by simp only[List.length_cons];omega) hS1 hem.1;obtain⟨l1,l2⟩:=o1.left (Y:=⟨l,at_+1,m⟩::r) settle_end.symm;refine on (1+k1) _ (at_+1) n1 q1' (hgo.trans (g1.eqv l1)) ((hO _ rfl).trans l2 (Int.le_refl _) (by rw[e2];omega)) hnx (by rw[hef];simp only;rw[f1,e2];omega) ?_ f3 (by rw[f4,hem.2]) (f5.eqv t1.funcs (⟨l,at_+1,m⟩::r) t1.steps t1.peak t1.ended t1.err) f6;rw[hef];simp only;rw[if_neg (by omega)];omega
   ·have htk:takes x.1=1∧leaves x.1=0:=by rw[hc];exact⟨rfl,rfl⟩
    have hdel:cj.delta=0:=by have:=b3 hc;rwa [hfn] at this
    have hslp:1≤s.stack.length:=by omega
    have hX:Sr.get q ((s.stack.length:Int)-1)=s.stack.getD 0 0:=hS.top rfl hslp;have hXF:=Rg hS.kp.stack 0;have htt:t = { s with stack:=s.stack.drop 1,frames:=if 0<min (s.stack.getD 0 0) 16 then⟨fl.getD j [],0,(min (s.stack.getD 0 0) 16-1).toNat⟩::⟨l,at_+1,m⟩::r else⟨l,at_+1,m⟩::r,err:=0,ended:=false } := by
     rw[←hdd,hc,hj]
     show call _ (j:Int) (min (s.stack.getD 0 0) 16)=_
     unfold call;split
     ·simp only[Int.toNat_natCast,hfu]
     ·rfl
    have hfr1:s1.frames=if 0<min (s.stack.getD 0 0) 16 then⟨fl.getD j [],0,(min (s.stack.getD 0 0) 16-1).toNat⟩::⟨l,at_+1,m⟩::r else⟨l,at_+1,m⟩::r:=by rw[e1,htt]
    generalize hXX:s.stack.getD 0 0=X at *;have hpos:0<Bu.sizeOf x ps:=by
     have h1:=(hz j hjl).1;have:Bu.sizeOf x ps=1+16*(1+(Bu.pl ps j).size):=by
      unfold Bu.sizeOf;rw[hc,hj];simp
     omega
    obtain⟨_,_,o3,_,o5⟩:=own hpos;obtain⟨o6,o7⟩:=o5 (by omega);have hslI:((s1.stack.length:Nat):Int)=(s.stack.length:Int)-1:=by rw[e2];omega
    have hstE:Bu.stepE es x s.stack.length loops=Bu.loopE (Bu.em es j s1.stack.length ((loops:Int)+1)) s1.stack.length loops:=by
     unfold Bu.stepE;rw[hc,hj,hslI];simp
    rw[o6,hstE] at o3;rw[hstE,Nk] at o7;have o3':=o3;unfold Bu.loopE at o3';obtain⟨g0,p0⟩:=Xn (q:=q) o3'.head (by simp) (Da (by simp));have hq0:Sr.deed ⟨40,32+(loops:Int),s1.stack.length,0,0⟩ { q with pc:=q.pc+1,steps:=q.steps+1 } = Sr.put { q with pc:=q.pc+1,steps:=q.steps+1 } (32+(loops:Int)) X:=by
     show Sr.put _ (32+(loops:Int)) (k32 (Sr.get q (s1.stack.length:Int)))=_
     rw[hslI,hX,hXF]
    rw[hq0] at g0 p0;have hK0:Keep loops q (Sr.put { q with pc:=q.pc+1,steps:=q.steps+1 } (32+(loops:Int)) X):=by
     rw[←hq0];exact Fo (.inr (by show 32+loops≤(32+(loops:Int)).toNat;omega)) q _ _
    have hS0:Sim s1 (Sr.put { q with pc:=q.pc+1,steps:=q.steps+1 } (32+(loops:Int)) X):=by
     refine(Sim.go ?_ _ _).aside X (by rw[e2];omega);refine hSt q ?_;rw[htt];exact(hS.drop 1).eqv s.funcs _ s.steps s.peak false 0
    have hcn:(Sr.put { q with pc:=q.pc+1,steps:=q.steps+1 } (32+(loops:Int)) X).regs.getD (32+loops) 0=X:=by
     simp only[Sr.put,List.getD_eq_getElem?_getD,List.getElem?_set];rw[if_pos (by omega),if_pos (by rw[hS.rl];omega)];rfl
    have hats:∀ i:Nat,i<16→At code (q.pc+1+i*(1+(Bu.em es j s1.stack.length ((loops:Int)+1)).length)) (⟨41,0,32+(loops:Int),(i:Int),(16-(i:Int))*(1+((Bu.em es j s1.stack.length ((loops:Int)+1)).length:Int))-1⟩::Bu.em es j s1.stack.length ((loops:Int)+1)):=by
     intro i hi;have:=At.flat (code:=code) (L:=1+(Bu.em es j s1.stack.length ((loops:Int)+1)).length) (fun k=>by rw[List.length_cons];omega) 16 (q.pc+1) o3'.tail i hi;exact this
    generalize hqe:Sr.put { q with pc:=q.pc+1,steps:=q.steps+1 } (32+(loops:Int)) X=qe at *;generalize hLe:(Bu.em es j s1.stack.length ((loops:Int)+1)).length=L at *;by_cases hm:0<min X 16
    ·rw[if_pos hm] at hfr1;generalize hmm:(min X 16-1).toNat=mm at *;have hmm1:mm≤15:=by omega
     obtain⟨k1,t1,n1,q1',g1,o1,f1,f2,f3,f4,f5,f6⟩:=Zat hG hdel loops X (q.pc+1) L s1.stack.length hLe hats mm 0 s1 _ qe (by omega) rfl hfr1 e3 e4 e5 (by rw[e2];omega) (by rw[e2];omega) (by simp only[List.length_cons];omega) (by simp only[List.length_cons];omega) hS0 (by rw[p0];omega) hcn;have h16:((mm:Int)+1)*cj.steps≤16*cj.steps:=Int.mul_le_mul_of_nonneg_right (by omega) hs0;refine on (1+k1) _ (at_+1) _ q1' (hgo.trans g1) ((hO _ rfl).trans o1 (Int.le_refl _) (by rw[e2];omega)) hnx (by rw[hef];simp only;rw[f1,e2];omega) ?_ (g0.trans f3) (by rw[f4,o7];omega) f5 (hK0.trans f6);rw[hef];simp only;rw[if_pos hc];omega
    ·rw[if_neg hm] at hfr1;have ha0:=hats 0 (by omega);rw[Nat.zero_mul,Nat.add_zero,←p0] at ha0;have g1:=Hc ha0.head;have hget:Sr.get qe (32+(loops:Int))=X:=by unfold Sr.get;rw[show (32+(loops:Int)).toNat=32+loops by omega];exact hcn
     rw[hget,if_pos (by omega)] at g1;refine on 1 s1 (at_+1) _ _ hgo (hO _ hfr1) hnx (by rw[hef];simp only;rw[e2];omega) ?_ (g0.trans g1) ?_ (hS0.go _ _) hK0
     ·rw[hef];simp only;rw[if_pos hc];omega
     ·have hfar:=Xu 0 L (by omega);simp only;rw[p0,o7];omega
  ·have hef:=effect_plain (fs:=fs) (p:=Bd.pat P at_) hc;have hpos:0<Bu.sizeOf x ps:=by
    unfold Bu.sizeOf;split
    ·omega
    ·rw[if_neg (by omega),if_neg (by omega)];omega
   obtain⟨o1,o2,o3,o4,o5⟩:=own hpos;have hfin:∀ (u n:Nat) (q2:Sr.St),s1.frames=⟨l,u,m⟩::r→(u:Int)∈Bd.ways at_ x→RGoes code n q q2→q2.pc=base+Bu.begins ls (Bu.cnt fs ps l u)→Sim t q2→Keep loops q q2→∃ k t n q',Goes k s t∧Out s t k (⟨l,l.length,m⟩::r) (h0+c.peak)∧(t.stack.length:Int)=h0+c.delta∧(Bd.pat P at_).steps+k≤c.steps∧RGoes code n q q'∧q'.pc=base+Bu.begins ls p.steps.length∧Sim t q'∧Keep loops q q':=fun u n q2 h1 h2 h3 h4 h5 h6 =>
    on 1 s1 u n q2 hgo (hO _ h1) h2 (by rw[hef];simp only;rw[e2];omega) (by rw[hef];simp only;omega) h3 h4 (hSt q2 h5) h6
   by_cases hjm:x.1=35∨x.1=36
   ·obtain⟨j,hj⟩:∃ j:Nat,x.2=j:=⟨x.2.toNat,by have:=a2 hjm;omega⟩;have hjj:Bu.jump x=j:=by unfold Bu.jump;rw[if_pos hjm,hj,Int.toNat_natCast]
    have htl:at_+1+j≤l.length:=by have:=a2 hjm;omega
    have hcm:=Bu.cnt_mono fs ps l (i:=at_+1) (j:=at_+1+j) (by omega) htl;have hbg:=Bu.begins_le ls _ _ hcm;rw[hjj] at o1;have hbs:=(Bu.begins_succ ls o4).1;rw[←o2] at hbs;have hcl:=(List.getElem?_eq_some_iff.1 o1).1;have hfx:Bu.fixed ls p.steps (Bu.cnt fs ps l at_)=Bu.setN (Bu.stepE es x s.stack.length loops) ((Bu.begins ls (Bu.cnt fs ps l (at_+1+j)):Int)-Bu.begins ls (Bu.cnt fs ps l at_)-1):=by
     unfold Bu.fixed;simp only[o1];rw[if_pos (by unfold Bu.isJump;simpa using hjm),List.getD_eq_getElem?_getD,o4];rfl
    rw[hfx] at o3;have htgt:((at_+1+j:Nat):Int)∈Bd.ways at_ x:=by
     unfold Bd.ways;rw[if_pos (c:=Bd.jumps x.1=true) (by simpa [Bd.jumps] using hjm),hj];simp
    rcases hjm with h35|h36
    ·have hsE:Bu.stepE es x s.stack.length loops=[⟨35,0,0,0,0⟩]:=by
      unfold Bu.stepE;rw[h35];simp
     rw[hsE] at o3 hbs;simp only[List.length_cons,List.length_nil] at hbs;have g:=Xm (o3.head);have htt:t = { s with frames:=⟨l,at_+1+j,m⟩::r,err:=0,ended:=false } := by
      rw[←hdd,h35,hj];rfl
     refine hfin (at_+1+j) _ _ (by rw[e1,htt]) htgt g ?_ ?_ (fun _ _=>rfl)
     ·simp only;rw[hq];omega
     ·rw[htt];exact(hSd.eqv s.funcs (⟨l,at_+1+j,m⟩::r) s.steps s.peak false 0).go _ _
    ·have hsE:Bu.stepE es x s.stack.length loops=[⟨36,0,(s.stack.length:Int)-1,0,0⟩]:=by
      unfold Bu.stepE;rw[h36];simp
     rw[hsE] at o3 hbs;simp only[List.length_cons,List.length_nil] at hbs;have htk:takes x.1=1:=by rw[h36];rfl
     have g:=Tu (o3.head);rw[hS.top rfl (by omega)] at g;have htt:t=if s.stack.getD 0 0=0 then { s with stack:=s.stack.drop 1,frames:=⟨l,at_+1+j,m⟩::r,err:=0,ended:=false } else { s with stack:=s.stack.drop 1,frames:=⟨l,at_+1,m⟩::r,err:=0,ended:=false } := by
      rw[←hdd,h36,hj]
      show (ite (s.stack.getD 0 0=0) _ _:St)=_
      split <;> rfl
     by_cases hzr:s.stack.getD 0 0=0
     ·rw[if_pos hzr] at htt g;refine hfin (at_+1+j) _ _ (by rw[e1,htt]) htgt g ?_ ?_ (fun _ _=>rfl)
      ·simp only;rw[hq];omega
      ·rw[htt];exact((hS.drop 1).eqv s.funcs (⟨l,at_+1+j,m⟩::r) s.steps s.peak false 0).go _ _
     ·rw[if_neg hzr] at htt g;refine hfin (at_+1) _ _ (by rw[e1,htt]) (hnx (by omega)) g ?_ ?_ (fun _ _=>rfl)
      ·simp only;rw[hq,hbs];omega
      ·rw[htt];exact((hS.drop 1).eqv s.funcs (⟨l,at_+1,m⟩::r) s.steps s.peak false 0).go _ _
   ·obtain⟨o6,o7⟩:=o5 hjm;rw[o6] at o3;obtain⟨n,q2,g,e8,e9,e10⟩:=Wa (es:=es) (code:=code) hSd (op:=x.1) (a:=x.2) a1 ⟨by omega,by omega,by omega,by omega⟩ c1 c2 h32 loops (by omega) (next:=(s.stack.length:Int)) rfl o3;rw[hdd] at e9;refine hfin (at_+1) n q2 ?_ (hnx (by omega)) g (by rw[e8,o7]) e9 e10;rw[e1,←hdd,Jv x.1 x.2 _ a1.1 (by omega)]
end Sm
end Go.Proofs.YtnhebmgibiomnaaGreat
namespace Go.Proofs.YtnhebmgibiomnaaGreat
namespace Bu
theorem code_zero {l:List (Int×Int)} {cs:List Bd.Cost} (h:(Bd.code l cs).2.2=0):Bd.code l cs=((Bd.code l cs).1,0,0):=by
 have key:∀ (n:Nat) (rr:List (Int×Int)) (at_:Int) (s:Bd.St),(Bd.rest n cs rr at_ s).2.2=0→(Bd.rest n cs rr at_ s).2.1=0:=by
  intro n rr
  induction rr with
  | nil=>intro at_ s _;rfl
  | cons y rr ih2 =>
   intro at_ s hh;unfold Bd.rest at hh ⊢;split at hh
   ·rename_i hq;simp only at hh;exact absurd hh hq
   ·rename_i hq;rw[if_neg hq];exact ih2 _ _ hh
 have h2:(Bd.code l cs).2.1=0:=by
  unfold Bd.code at h ⊢;split at h
  ·rename_i hm;rw[if_pos hm];exact key _ _ _ _ h
  ·simp at h
 exact Prod.ext rfl (Prod.ext h2 h)
theorem Lz:∀ (r:List (List (Int×Int))) (i:Int) (cs:List Bd.Cost),(Bd.funcsGo r i cs).2.2=0→∃ more,(Bd.funcsGo r i cs).1=cs++more∧more.length=r.length∧∀ j lj,r[j]?=some lj→∃ cj,more[j]?=some cj∧Bd.code lj (cs++more.take j)=(cj,0,0):=by
 intro r
 induction r with
 | nil=>intro i cs _;exact⟨[],by simp[Bd.funcsGo],rfl,fun j lj h=>by simp at h⟩
 | cons l r ih =>
  intro i cs h;unfold Bd.funcsGo at h ⊢;split at h
  ·rename_i hne;simp only at h;exact absurd h hne
  ·rename_i hz;rw[if_neg hz];have hz:(Bd.code l cs).2.2=0:=by omega
   obtain⟨more,h1,h2,h3⟩:=ih (i+1) (cs++[(Bd.code l cs).1]) h;refine⟨(Bd.code l cs).1::more,by rw[h1,List.append_assoc];rfl,by simp[h2],fun j lj hj=>?_⟩;cases j with
   | zero =>
    simp only[List.getElem?_cons_zero,Option.some.injEq] at hj;subst hj;exact⟨_,rfl,by rw[List.take_zero,List.append_nil];exact code_zero hz⟩
   | succ j =>
    obtain⟨cj,h4,h5⟩:=h3 j lj (by simpa using hj);refine⟨cj,by simpa using h4,?_⟩;rw[List.take_succ_cons,←h5,List.append_assoc];rfl
theorem Pr {ll:List (List (Int×Int))} (h:(Bd.funcs ll).2.2=0):ll.length≤20∧(Bd.funcs ll).1.length=ll.length∧∀ j lj,ll[j]?=some lj→∃ cj,(Bd.funcs ll).1[j]?=some cj∧Bd.code lj ((Bd.funcs ll).1.take j)=(cj,0,0):=by
 unfold Bd.funcs at h ⊢;split at h
 ·simp at h
 ·rename_i h20;rw[if_neg h20];obtain⟨more,h1,h2,h3⟩:=Lz ll 0 [] h;rw[h1,List.nil_append];exact⟨by omega,h2,fun j lj hj=>by simpa using h3 j lj hj⟩
theorem Pa (fs:List Bd.Cost):∀ (r:List (List (Int×Int))) (ps:List Plan),∃ more,plans fs r ps=ps++more∧more.length=r.length∧∀ j lj,r[j]?=some lj→more[j]?=some (planned lj fs (ps++more.take j)):=by
 intro r
 induction r with
 | nil=>intro ps;exact⟨[],by simp[plans],rfl,fun j lj h=>by simp at h⟩
 | cons l r ih =>
  intro ps;obtain⟨more,h1,h2,h3⟩:=ih (ps++[planned l fs ps]);refine⟨planned l fs ps::more,by rw[plans,h1,List.append_assoc];rfl,by simp[h2],fun j lj hj=>?_⟩;cases j with
  | zero =>
   simp only[List.getElem?_cons_zero,Option.some.injEq] at hj;subst hj;simp
  | succ j =>
   have:=h3 j lj (by simpa using hj);rw[List.getElem?_cons_succ,this,List.take_succ_cons,List.append_assoc];rfl
theorem Pw:∀ (r:List Plan) (es:List Emit),∃ more,emits r es=es++more∧more.length=r.length∧∀ j pj,r[j]?=some pj→more[j]?=some (emitE (es++more.take j) pj):=by
 intro r
 induction r with
 | nil=>intro ps;exact⟨[],by simp[emits],rfl,fun j lj h=>by simp at h⟩
 | cons l r ih =>
  intro es;obtain⟨more,h1,h2,h3⟩:=ih (es++[emitE es l]);refine⟨emitE es l::more,by rw[emits,h1,List.append_assoc];rfl,by simp[h2],fun j lj hj=>?_⟩;cases j with
  | zero =>
   simp only[List.getElem?_cons_zero,Option.some.injEq] at hj;subst hj;simp
  | succ j =>
   have:=h3 j lj (by simpa using hj);rw[List.getElem?_cons_succ,this,List.take_succ_cons,List.append_assoc];rfl
theorem Nn {fs fs':List Bd.Cost} (x:Int×Int) (h:(x.1=37∨x.1=38)→Bd.fn fs x.2=Bd.fn fs' x.2):growth x fs=growth x fs':=by
 unfold growth;by_cases h37:x.1=37
 ·rw[h (.inl h37)]
 ·by_cases h38:x.1=38
  ·rw[h (.inr h38)]
  ·simp only[h37,h38,if_false]
theorem Ms {ps ps':List Plan} (x:Int×Int) (h:(x.1=37∨x.1=38)→pl ps x.2=pl ps' x.2):sizeOf x ps=sizeOf x ps':=by
 unfold sizeOf;by_cases h37:x.1=37
 ·rw[h (.inl h37)]
 ·by_cases h38:x.1=38
  ·rw[h (.inr h38)]
  ·simp only[h37,h38,if_false]
theorem Hv {fs fs':List Bd.Cost} {ps ps':List Plan}:∀ (l:List (Int×Int)) (i:Nat) (s:PSt),(∀ x∈l,growth x fs=growth x fs'∧sizeOf x ps=sizeOf x ps')→planGo fs ps l i s=planGo fs' ps' l i s
 | [],_,_,_=>rfl
 | x::l,i,s,h=>by
  obtain⟨h1,h2⟩:=h x (by simp);rw[planGo,planGo,show plan1 fs ps i x s=plan1 fs' ps' i x s by unfold plan1;rw[h1,h2]];exact Hv l _ _ fun y hy=>h y (by simp[hy])
theorem Lr {fs fs':List Bd.Cost} {ps ps':List Plan} {l:List (Int×Int)} (h:∀ x∈l,growth x fs=growth x fs'∧sizeOf x ps=sizeOf x ps'):planned l fs ps=planned l fs' ps':=by
 unfold planned;rw[Hv l 0 _ h]
theorem Oq {es es':List Emit} (x:Int×Int) (h:(x.1=37∨x.1=38)→em es x.2=em es' x.2) (next loops:Int):stepE es x next loops=stepE es' x next loops:=by
 unfold stepE;by_cases h37:x.1=37
 ·rw[h (.inl h37)]
 ·by_cases h38:x.1=38
  ·rw[h (.inr h38)]
  ·simp only[h37,h38,if_false]
theorem Px {es es':List Emit} {p:Plan} (h:∀ s∈p.steps,(s.op=37∨s.op=38)→em es s.a=em es' s.a):emitE es p=emitE es' p:=by
 funext high loops
 have:pieces es p high loops=pieces es' p high loops:=by
  unfold pieces;refine List.map_congr_left fun s hs=>Oq _ (h s hs) _ _
 unfold emitE;simp only[this]
def sumZ (ps:List Plan) (l:List PS):Int:=(l.map fun s=>sizeOf (s.op,s.a) ps).sum
theorem Zbu (fs:List Bd.Cost) (ps:List Plan) (l:List (Int×Int)):∀ i,i≤l.length→(∀ k s,(st fs ps l i).steps[k]?=some s→∃ i' x,i'<i∧l[i']?=some x∧kn fs ps l i'=true∧cnt fs ps l i'=k∧0<sizeOf x ps∧s=⟨x.1,x.2,(st fs ps l i').high.getD i' 0,i'+1+jump x⟩) ∧
  (st fs ps l i).size=min 20001 (sumZ ps (st fs ps l i).steps):=by
 intro i
 induction i with
 | zero=>intro _;exact⟨fun k s h=>by simp[st,planGo,start] at h,by simp only[st,planGo,start,sumZ,List.take_zero,List.map_nil,List.sum_nil];omega⟩
 | succ i ih =>
  intro hi;obtain⟨x,hx⟩:∃ x,l[i]?=some x:=⟨_,List.getElem?_eq_getElem (by omega)⟩;obtain⟨h1,h2⟩:=ih (by omega);have hs:=st_succ fs ps hx;by_cases hk:kn fs ps l i=true
  ·have hk':=hk;unfold kn at hk';unfold plan1 at hs;rw[if_neg (by simpa using hk')] at hs;by_cases hz:0<sizeOf x ps
   ·have e1:(st fs ps l (i+1)).steps=(st fs ps l i).steps++[⟨x.1,x.2,(st fs ps l i).high.getD i 0,i+1+jump x⟩]:=by rw[hs];dsimp only;rw[if_pos hz]
    have e2:(st fs ps l (i+1)).size=min ((st fs ps l i).size+sizeOf x ps) 20001:=by rw[hs];dsimp only;rw[if_pos hz]
    refine⟨fun k s hks=>?_,?_⟩
    ·rw[e1] at hks;by_cases hkl:k<(st fs ps l i).steps.length
     ·rw[List.getElem?_append_left hkl] at hks;obtain⟨i',x',q1,q2⟩:=h1 k s hks;exact⟨i',x',by omega,q2⟩
     ·rw[List.getElem?_append_right (by omega)] at hks;have hk0:k-(st fs ps l i).steps.length=0:=by
       have:=(List.getElem?_eq_some_iff.1 hks).1;simp only[List.length_cons,List.length_nil] at this;omega
      rw[hk0] at hks;simp only[List.getElem?_cons_zero,Option.some.injEq] at hks;exact⟨i,x,by omega,hx,hk,by unfold cnt;omega,hz,hks.symm⟩
    ·rw[e2,e1,h2];have:sumZ ps ((st fs ps l i).steps++[⟨x.1,x.2,(st fs ps l i).high.getD i 0,i+1+jump x⟩])=sumZ ps (st fs ps l i).steps+sizeOf x ps:=by
      unfold sumZ;simp
     rw[this];omega
   ·have e1:(st fs ps l (i+1)).steps=(st fs ps l i).steps:=by rw[hs];dsimp only;rw[if_neg hz]
    have e2:(st fs ps l (i+1)).size=(st fs ps l i).size:=by rw[hs];dsimp only;rw[if_neg hz]
    rw[e1,e2];exact⟨fun k s hks=>by obtain⟨i',x',q1,q2⟩:=h1 k s hks;exact⟨i',x',by omega,q2⟩,h2⟩
  ·have hk':=hk;unfold kn at hk';unfold plan1 at hs;rw[if_pos (by simpa using hk')] at hs;rw[hs];exact⟨fun k s hks=>by obtain⟨i',x',q1,q2⟩:=h1 k s hks;exact⟨i',x',by omega,q2⟩,h2⟩
theorem Zk (ps:List Plan) (l:List PS) (f:PS→Nat):sumZ ps (l.map fun p => { p with go:=f p })=sumZ ps l:=by
 unfold sumZ;rw[List.map_map];rfl
theorem sumZ_nonneg (ps:List Plan):∀ (l:List PS),(∀ s∈l,0<sizeOf (s.op,s.a) ps)→0≤sumZ ps l∧(∀ s∈l,sizeOf (s.op,s.a) ps≤sumZ ps l)
 | [],_=>⟨by simp[sumZ],fun s h=>by simp at h⟩
 | x::l,h=>by
  obtain⟨h1,h2⟩:=sumZ_nonneg ps l fun s hs=>h s (by simp[hs])
  have hx:=h x (by simp);have e:sumZ ps (x::l)=sizeOf (x.op,x.a) ps+sumZ ps l:=by unfold sumZ;simp
  refine⟨by omega,fun s hs=>?_⟩;simp only[List.mem_cons] at hs;rcases hs with rfl|hs
  ·omega
  ·have:=h2 s hs;omega
theorem planned_src {fs:List Bd.Cost} (ps:List Plan) {l:List (Int×Int)} {c:Bd.Cost} {P:List Bd.Place} (h:Hd.Tab l.length fs l c P):∀ k s,(planned l fs ps).steps[k]?=some s→∃ i x,l[i]?=some x∧kn fs ps l i=true∧cnt fs ps l i=k∧0<sizeOf x ps∧s=⟨x.1,x.2,(Bd.pat P i).high,cnt fs ps l (i+1+jump x)⟩:=by
 intro k s hs;have hp:=planned_of ps h;have hk:k<(planned l fs ps).steps.length:=(List.getElem?_eq_some_iff.1 hs).1;have hpl:(planned l fs ps).steps=(st fs ps l l.length).steps.map fun p => { p with go:=((st fs ps l l.length).index.set l.length (st fs ps l l.length).steps.length).getD p.go 0 } := by
  unfold planned st;rw[List.take_length]
 rw[hpl,List.length_map] at hk;obtain⟨i,x,h1,h2,h3,h4,h5,_⟩:=(Zbu fs ps l l.length Ad).1 k _ (List.getElem?_eq_getElem hk);refine⟨i,x,h2,h3,h4,h5,?_⟩;rcases(hp.step i x h2 h3).2 with⟨_,q,_⟩|⟨q,_⟩
 ·rw[h4,hs] at q;exact Option.some.inj q
 ·omega
theorem planned_size (fs:List Bd.Cost) (ps:List Plan) (l:List (Int×Int)):(planned l fs ps).size=min 20001 (sumZ ps (planned l fs ps).steps)∧(∀ s∈(planned l fs ps).steps,0<sizeOf (s.op,s.a) ps∧(s.op,s.a)∈l):=by
 have e1:(planned l fs ps).steps=(st fs ps l l.length).steps.map fun p => { p with go:=((st fs ps l l.length).index.set l.length (st fs ps l l.length).steps.length).getD p.go 0 } := by
  unfold planned st;rw[List.take_length]
 have e2:(planned l fs ps).size=(st fs ps l l.length).size:=by
  unfold planned st;rw[List.take_length]
 obtain⟨h1,h2⟩:=Zbu fs ps l l.length Ad;rw[e2,h2,e1,Zk];refine⟨rfl,fun s hs=>?_⟩;obtain⟨s',hs',rfl⟩:=List.mem_map.1 hs;obtain⟨k,hk⟩:=List.mem_iff_getElem?.1 hs';obtain⟨i,x,_,q2,_,_,q5,rfl⟩:=h1 k s' hk;exact⟨q5,List.mem_of_getElem? q2⟩
theorem planned_bds (fs:List Bd.Cost) (ps:List Plan) (l:List (Int×Int)):0≤(planned l fs ps).size∧(planned l fs ps).size≤20001∧((planned l fs ps).size≤0→(planned l fs ps).steps=[]):=by
 obtain⟨h1,h2⟩:=planned_size fs ps l;obtain⟨h3,h4⟩:=sumZ_nonneg ps _ fun s hs=>(h2 s hs).1
 refine⟨by omega,by omega,fun hz=>?_⟩;cases he:(planned l fs ps).steps with
 | nil=>rfl
 | cons s r =>
  exfalso;have q1:=h4 s (by rw[he];simp);have q2:=(h2 s (by rw[he];simp)).1;omega
structure All (ll:List (List (Int×Int))) (fs:List Bd.Cost) (ps:List Plan) (es:List Emit):Prop where
 l20:ll.length≤20
 fl:fs.length=ll.length
 pn:ps.length=ll.length
 el:es.length=ll.length
 fn:∀ j lj,ll[j]?=some lj→∃ cj P,fs[j]?=some cj∧Bd.code lj (fs.take j)=(cj,0,0)∧Hd.Tab lj.length (fs.take j) lj cj P∧pl ps j=planned lj (fs.take j) ps∧ps[j]?=some (planned lj (fs.take j) ps)∧em es j=emitE es (planned lj (fs.take j) ps)∧ps[j]?=some (planned lj fs (ps.take j))
theorem Zff (fs:List Bd.Cost) {j:Nat} {a:Int} (h:a<j) (h0:0≤a):Bd.fn (fs.take j) a=Bd.fn fs a:=by
 unfold Bd.fn;rw[List.getD_eq_getElem?_getD,List.getD_eq_getElem?_getD,List.getElem?_take,if_pos (by omega)]
theorem Zer (ps:List Plan) {j:Nat} {a:Int} (h:a<j) (h0:0≤a):pl (ps.take j) a=pl ps a:=by
 unfold pl;rw[List.getD_eq_getElem?_getD,List.getD_eq_getElem?_getD,List.getElem?_take,if_pos (by omega)]
theorem Zfj (es:List Emit) {j:Nat} {a:Int} (h:a<j) (h0:0≤a):em (es.take j) a=em es a:=by
 unfold em;rw[List.getD_eq_getElem?_getD,List.getD_eq_getElem?_getD,List.getElem?_take,if_pos (by omega)]
theorem tab_calls {n:Nat} {fs:List Bd.Cost} {l:List (Int×Int)} {c:Bd.Cost} {P:List Bd.Place} (h:Hd.Tab n fs l c P) (x:Int×Int) (hx:x∈l) (hc:x.1=37∨x.1=38):0≤x.2∧x.2<fs.length:=by
 obtain⟨i,hi⟩:=List.mem_iff_getElem?.1 hx;exact(Hd.always_ok (h.ok i x hi).al).2.2 hc
theorem all_of {ll:List (List (Int×Int))} (h:(Bd.funcs ll).2.2=0):All ll (Bd.funcs ll).1 (plans (Bd.funcs ll).1 ll []) (emits (plans (Bd.funcs ll).1 ll []) []):=by
 obtain⟨h20,hfl,hf⟩:=Pr h;generalize (Bd.funcs ll).1=fs at *;obtain⟨ps,h1,h2,h3⟩:=Pa fs ll [];rw[List.nil_append] at h1;rw[h1];obtain⟨es,h4,h5,h6⟩:=Pw ps [];rw[List.nil_append] at h4;rw[h4];refine⟨h20,hfl,h2,h5.trans h2,fun j lj hj=>?_⟩;obtain⟨cj,hcj,hcode⟩:=hf j lj hj;obtain⟨P,hP⟩:=Hd.code_tab hcode;have hjl:=(List.getElem?_eq_some_iff.1 hj).1;have htl:(fs.take j).length=j:=by rw[List.length_take];omega
 have hp0:=h3 j lj hj;rw[List.nil_append] at hp0;have hpe:planned lj fs (ps.take j)=planned lj (fs.take j) ps:=Lr fun x hx=>by
  refine⟨(Nn x fun hc=>?_),Ms x fun hc=>?_⟩
  ·obtain⟨q1,q2⟩:=tab_calls hP x hx hc;exact(Zff fs (by omega) q1).symm
  ·obtain⟨q1,q2⟩:=tab_calls hP x hx hc;exact Zer ps (by omega) q1
 have hp:=hp0;rw[hpe] at hp;have hpl:Bu.pl ps j=planned lj (fs.take j) ps:=by
  unfold Bu.pl;rw[Int.toNat_natCast,List.getD_eq_getElem?_getD,hp];rfl
 have he:=h6 j _ hp;rw[List.nil_append] at he;refine⟨cj,P,hcj,hcode,hP,hpl,hp,?_,hp0⟩;unfold em;rw[Int.toNat_natCast,List.getD_eq_getElem?_getD,he];refine Px fun s hs hc=>?_
 obtain⟨q1,q2⟩:=tab_calls hP (s.op,s.a) ((planned_size (fs.take j) ps lj).2 s hs).2 hc;exact Zfj es (by simp only at q2;omega) q1
end Bu
namespace Sm
open Mc Hd
theorem Xj {ll:List (List (Int×Int))} {fs:List Bd.Cost} {ps:List Bu.Plan} {es:List Bu.Emit} (h:Bu.All ll fs ps es) (code:List Sr.Reg):∀ (j:Nat) lj,ll[j]?=some lj→∃ cj,fs[j]?=some cj∧Yu ll code es j cj∧0≤cj.steps∧0≤cj.peak:=by
 intro j
 induction j using Nat.strongRecOn with
 | _ j ih =>
 intro lj hj;obtain⟨cj,P,hcj,hcode,hP,hpl,hp,hem,_⟩:=h.fn j lj hj;have hjl:=(List.getElem?_eq_some_iff.1 hj).1;have hfl:=h.fl;have htl:(fs.take j).length=j:=by rw[List.length_take];omega
 have hget:ll.getD j []=lj:=by rw[List.getD_eq_getElem?_getD,hj];rfl
 have hg:∀ i ci,(fs.take j)[i]?=some ci→Yu ll code es i ci∧0≤ci.steps∧0≤ci.peak:=fun i ci hi=>by
  have hij:=(List.getElem?_eq_some_iff.1 hi).1;rw[htl] at hij;rw[List.getElem?_take,if_pos hij] at hi;obtain⟨ci',q1,q2⟩:=ih i hij _ (List.getElem?_eq_getElem (by omega));rw[hi] at q1
  injection q1 with q1
  subst q1;exact q2
 have hz:∀ i:Nat,i<(fs.take j).length→0≤(Bu.pl ps i).size∧((Bu.pl ps i).size≤0→∀ high loops,Bu.em es i high loops=[]):=fun i hi=>by
  rw[htl] at hi;obtain⟨_,_,_,_,_,q1,_,q2,_⟩:=h.fn i _ (List.getElem?_eq_getElem (show i<ll.length by omega));obtain⟨b1,_,b3⟩:=Bu.planned_bds (fs.take i) ps ll[i];rw[q1,q2];refine⟨b1,fun hz high loops=>?_⟩;unfold Bu.emitE;rw[b3 hz];rfl
 refine⟨cj,hcj,fun s m r q loops h1 h2 h3 h4 h5 h6 h7 h8 h9 h10=>?_,Io hcode,hP.k0⟩;rw[hget] at h1 ⊢;rw[hem] at h10 ⊢;have hPl:=Bu.planned_of ps hP;obtain⟨p1,p2,p3⟩:=hP.p0;obtain⟨k,t,n,q',e1,e2,e3,e4,e5,e6,e7,e8⟩:=Qx hP hPl (by omega) hg hz q.pc s.stack.length loops h10 lj.length 0 s m r q (by omega) h1 h2 h3 h4 hPl.k0 (by rw[show ((0:Nat):Int)=0 from rfl,p2];omega) h5 h6 (by omega) h8 (by have:=hP.k0;omega) h9 (by rw[hPl.c0];simp[Bu.begins]);rw[show ((0:Nat):Int)=0 from rfl,p3] at e4;exact⟨k,t,n,q',e1,e2,e3,by omega,e5,e6,e7,e8⟩
theorem Zbo (p:Pg) (z:Zn):Kp (begin_ p z):=by
 refine⟨fun x hx=>by simp[begin_] at hx,fun x hx=>?_,fun x hx=>?_,fun x hx=>?_,fun x hx=>?_,Ii _⟩
 ·simp only[begin_,List.mem_map] at hx;obtain⟨y,_,rfl⟩:=hx;exact Ii _
 ·rw[List.eq_of_mem_replicate hx];exact F0
 ·simp only[begin_,List.mem_map] at hx;obtain⟨y,_,rfl⟩:=hx;exact⟨Ii _,Ii _⟩
 ·simp only[begin_,List.mem_map] at hx;obtain⟨y,_,rfl⟩:=hx;exact⟨Ii _,Ii _⟩
theorem Yn (ll:List (List (Int×Int))) (l:List (Int×Int)) (cvt:List Int) (size:Int) (z:Zn):Sim (begin_ ⟨ll,l,cvt,size⟩ z) (Sr.begin_ cvt size z) :=
 ⟨⟨(Sr.begin_ cvt size z).m,rfl⟩,by simp[Sr.begin_],fun i hi=>by simp[begin_] at hi,Zbo _ _⟩
theorem build_sim {ll:List (List (Int×Int))} {l:List (Int×Int)} {c:Bd.Cost} (h:Bd.program ll l=(c,0)) {code:List Sr.Reg} (hb:Bu.build ll l=(code,0)) (cvt:List Int) (size:Int) (z:Zn) :
  Sim (Mc.run c.steps.toNat (begin_ ⟨ll,l,cvt,size⟩ z)) (Sr.run code cvt size z)∧(Mc.run c.steps.toNat (begin_ ⟨ll,l,cvt,size⟩ z)).err=0∧((Mc.run c.steps.toNat (begin_ ⟨ll,l,cvt,size⟩ z)).stack.length:Int)=c.delta∧(Sr.run code cvt size z).steps<code.length∧0≤c.delta∧c.delta≤32:=by
 unfold Bu.build at hb;rw[h] at hb;simp only[ne_eq,not_true_eq_false,if_false] at hb;unfold Bd.program at h;split at h
 ·rename_i hne;simp at h;exact absurd h.2 hne
 ·rename_i hz;have hA:=Bu.all_of (ll:=ll) (by omega);generalize (Bd.funcs ll).1=fs at *;generalize Bu.plans fs ll []=ps at *;generalize Bu.emits ps []=es at *;split at hb
  ·simp at hb
  ·rename_i hov
   injection hb with hb _
   unfold Bd.whole at h;split at h
   ·rename_i hne;simp at h;exact absurd h.2 hne
   ·rename_i hz2;split at h
    ·simp at h
    ·rename_i hnd
     injection h with hcc _
     have hcode:=Bu.code_zero (l:=l) (cs:=fs) (by omega);rw[hcc] at hcode hnd;obtain⟨P,hP⟩:=code_tab hcode;have h0:=Io hcode;obtain⟨p1,p2,p3⟩:=hP.p0;have hfl:=hA.fl;have h20:=hA.l20;have hg:∀ i ci,fs[i]?=some ci→Yu ll code es i ci∧0≤ci.steps∧0≤ci.peak:=fun i ci hi=>by
      have hij:=(List.getElem?_eq_some_iff.1 hi).1;obtain⟨ci',q1,q2⟩:=Xj hA code i _ (List.getElem?_eq_getElem (by omega));rw[hi] at q1
      injection q1 with q1
      subst q1;exact q2
     have hzz:∀ i:Nat,i<fs.length→0≤(Bu.pl ps i).size∧((Bu.pl ps i).size≤0→∀ high loops,Bu.em es i high loops=[]):=fun i hi=>by
      obtain⟨_,_,_,_,_,q1,_,q2,_⟩:=hA.fn i _ (List.getElem?_eq_getElem (show i<ll.length by omega));obtain⟨b1,_,b3⟩:=Bu.planned_bds (fs.take i) ps ll[i];rw[q1,q2];refine⟨b1,fun hz high loops=>?_⟩;unfold Bu.emitE;rw[b3 hz];rfl
     have hPl:=Bu.planned_of ps hP;have hq0:(Sr.begin_ cvt size z).pc=0:=rfl;have hat:At code 0 (Bu.emitE es (Bu.planned l fs ps) 0 ((0:Nat):Int)):=by
      rw[←hb];intro i r hr;rw[Nat.zero_add];exact(List.getElem?_append_left (List.getElem?_eq_some_iff.1 hr).1).trans hr
     generalize hs:begin_ ⟨ll,l,cvt,size⟩ z=s at *;have hfr:s.frames=[⟨l,0,0⟩]:=by rw[←hs];rfl
     have hen:s.ended=false:=by rw[←hs];rfl
     have her:s.err=0:=by rw[←hs];rfl
     have hfu:s.funcs=ll:=by rw[←hs];rfl
     have hsk:s.stack=[]:=by rw[←hs];rfl
     have hSim:=Yn ll l cvt size z;rw[hs] at hSim;obtain⟨k,t,n,q',⟨u,g1,g2⟩,o,e1,e2,e5,e6,e7,_⟩:=Qx hP hPl (by omega) hg hzz 0 0 0 hat l.length 0 s 0 [] (Sr.begin_ cvt size z) (by omega) hfr hen her hfu hPl.k0 (by rw[show ((0:Nat):Int)=0 from rfl,p2,hsk];rfl) (by omega) (by have:=hP.k1;omega) (by simp only[List.length_nil];omega) Ad (by rw[hsk];simp) hSim (by rw[hPl.c0,hq0];simp[Bu.begins]);rw[show ((0:Nat):Int)=0 from rfl,p3] at e2;obtain⟨u1,X,rfl,hX⟩:=g2;have hfr2:=o.fr;simp only at hfr2;subst hfr2;have hset:Mc.settle u.frames=[]:=by rw[←hX,settle_end];rfl
     have hnx:=Rc u1 hset;have hrun:Mc.run c.steps.toNat s = { u with frames:=[],ended:=true } := by
      have hk:k≤c.steps.toNat:=by omega
      by_cases hkk:k=c.steps.toNat
      ·unfold Mc.run;rw[←hkk,g1];simp only;rw[hnx]
      ·obtain⟨j,hj⟩:∃ j,c.steps.toNat=k+(j+1):=⟨c.steps.toNat-k-1,by omega⟩;unfold Mc.run;rw[hj,Gq k (j+1) s u g1,Mc.steps];have:Mc.step u=({ u with frames:=[],ended:=true },false):=by unfold Mc.step;rw[hnx]
       rw[this]
     have hlen:code.length=(Bu.emitE es (Bu.planned l fs ps) 0 ((0:Nat):Int)).length+1:=by
      rw[←hb,List.length_append,List.length_singleton];rfl
     have hend:code.getD q'.pc Sr.nop=⟨42,0,0,0,c.delta⟩:=by
      rw[e6,Nat.zero_add,List.getD_eq_getElem?_getD,←hb]
      show ((Bu.emitE es (Bu.planned l fs ps) 0 ((0:Nat):Int)++[⟨42,0,0,0,c.delta⟩]:List Sr.Reg)[_]?).getD _=_
      rw[List.getElem?_append_right Ad,Nat.sub_self];rfl
     obtain⟨r1,r2,r3⟩:=e5;rw[hq0,Nat.zero_add] at r3;have hst0:(Sr.begin_ cvt size z).steps=0:=rfl;have hR:Sr.run code cvt size z=q':=by
      obtain⟨m',hm'⟩:∃ m',code.length=n+(m'+1):=⟨code.length-n-1,by omega⟩;unfold Sr.run;rw[hm',r1,Sr.runs,hend];rfl
     have hpk:=hP.k1;rw[hrun,hR];have o1:=o.er;simp only at o1 e1;have hS2:Sim { u with frames:=[],ended:=true } q':=e7.eqv u.funcs [] u.steps u.peak true u.err;refine⟨hS2,o1,by simp only;omega,by rw[r2,hst0];omega,by omega,?_⟩;unfold Bd.code at hcode;split at hcode
     ·rename_i hm;exact(Hd.rest_bds l.length fs hm l 0 (Bd.start l.length) c hcode (Bd.start_ok _)).2.2.2.2
     ·simp at hcode
end Sm
end Go.Proofs.YtnhebmgibiomnaaGreat
namespace Go.Proofs.YtnhebmgibiomnaaGreat
namespace Sm
open Mc Hd
def OkX (c:List Sr.Reg) (e:Nat):Prop:=∀ (i:Nat) r,c[i]?=some r→r.op≠42∧(Sr.uses r.op).2=true∧Sr.there r (Sr.uses r.op).1=true∧(Sr.leaps r.op=true→0≤r.n∧(i:Int)+1+r.n≤c.length+e)
theorem OkX.mono {c:List Sr.Reg} {e e':Nat} (h:OkX c e) (he:e≤e'):OkX c e':=fun i r hr=>by
 obtain⟨h1,h2,h3,h4⟩:=h i r hr;exact⟨h1,h2,h3,fun hl=>by have:=h4 hl;omega⟩
theorem Wh (e:Nat):OkX [] e:=fun i r h=>by simp at h
theorem Cy {r:Sr.Reg} {e:Nat} (h42:r.op≠42) (hu:(Sr.uses r.op).2=true) (ht:Sr.there r (Sr.uses r.op).1=true) (hl:Sr.leaps r.op=true→0≤r.n∧r.n≤e):OkX [r] e:=fun i r' hr=>by
 have:i=0:=by
  have:=(List.getElem?_eq_some_iff.1 hr).1;simp only[List.length_cons,List.length_nil] at this;omega
 subst this;simp only[List.getElem?_cons_zero,Option.some.injEq] at hr;subst hr;exact⟨h42,hu,ht,fun h=>by have:=hl h;simp only[List.length_cons,List.length_nil];omega⟩
theorem OkX.append {a b:List Sr.Reg} {e:Nat} (h:OkX a (b.length+e)) (k:OkX b e):OkX (a++b) e:=fun i r hr=>by
 by_cases hi:i<a.length
 ·rw[List.getElem?_append_left hi] at hr;obtain⟨h1,h2,h3,h4⟩:=h i r hr;exact⟨h1,h2,h3,fun hl=>by have:=h4 hl;rw[List.length_append];omega⟩
 ·rw[List.getElem?_append_right (by omega)] at hr;obtain⟨h1,h2,h3,h4⟩:=k (i-a.length) r hr;exact⟨h1,h2,h3,fun hl=>by have:=h4 hl;rw[List.length_append];omega⟩
theorem Ra {g:Nat→List Sr.Reg} {off:Nat→Nat} (h0:off 0=0):∀ (n:Nat) (e:Nat),(∀ k,k<n→off (k+1)=off k+(g k).length)→(∀ k,k<n→OkX (g k) (off n-off (k+1)+e))→OkX ((List.range n).flatMap g) e∧((List.range n).flatMap g).length=off n:=by
 intro n
 induction n with
 | zero=>intro e _ _;exact⟨Wh _,by simp[h0]⟩
 | succ n ih =>
  intro e hs h;have hmono:∀ d k,k+d≤n+1→off k≤off (k+d):=by
   intro d
   induction d with
   | zero=>intro k _;exact Ad
   | succ d ih=>intro k hk;have:=ih k (by omega);have:=hs (k+d) (by omega);rw[←Nat.add_assoc];omega
  have hn:=hs n (by omega);obtain⟨h1,h2⟩:=ih ((g n).length+e) (fun k hk=>hs k (by omega)) fun k hk=>by
   have:=h k (by omega);have h3:=hmono (n-(k+1)) (k+1) (by omega);rw[show k+1+(n-(k+1))=n by omega] at h3;exact this.mono (by omega)
  rw[List.range_succ,List.flatMap_append,List.flatMap_singleton];have h3:=h n (by omega);rw[Nat.sub_self,Nat.zero_add] at h3;exact⟨h1.append h3,by rw[List.length_append,h2,hn]⟩
theorem Zen {n:Int} (h:0≤n∧n<64):Sr.rg n=true:=by unfold Sr.rg;simpa using h
theorem Ck {r:Sr.Reg} (u:Int) (hd:u % 2=0∨(0≤r.d∧r.d<64)) (ha:u / 2 % 2=0∨(0≤r.a∧r.a<64)) (hb:u / 4 % 2=0∨(0≤r.b∧r.b<64)):Sr.there r u=true:=by
 unfold Sr.there;simp only[Bool.and_eq_true,Bool.or_eq_true,decide_eq_true_eq];exact⟨⟨hd.imp id Zen,ha.imp id Zen⟩,hb.imp id Zen⟩
theorem Zcr {op:Int} (h:1≤op∧op≤39) (hn:op≠1∧op≠2∧op≠3∧op≠4∧op≠35∧op≠36∧op≠37∧op≠38∧op≠39):(Sr.uses op).2=true:=by
 have hc:op=5∨op=6∨op=7∨op=8∨op=9∨op=10∨op=11∨op=12∨op=13∨op=14∨op=15∨op=16∨op=17∨op=18∨op=19∨op=20∨op=21∨op=22∨op=23∨op=24∨op=25∨op=26∨op=27∨op=28∨op=29∨op=30∨op=31∨op=32∨op=33∨op=34:=by omega
 clear h hn;rcases hc with rfl|rfl|rfl|rfl|rfl|rfl|rfl|rfl|rfl|rfl|rfl|rfl|rfl|rfl|rfl|rfl|rfl|rfl|rfl|rfl|rfl|rfl|rfl|rfl|rfl|rfl|rfl|rfl|rfl|rfl
 all_goals decide
theorem Dx {op:Int} (h:Sr.leaps op=false) {P:Prop}:Sr.leaps op=true→P:=fun e=>by rw[h] at e;cases e
theorem Zp (es:List Bu.Emit) {op a next:Int} (loops:Nat) (e:Nat) (hop:1≤op∧op≤39) (hc:op≠35∧op≠36∧op≠37∧op≠38) (h1:(takes op:Int)≤next) (h2:next+leaves op≤32+takes op):OkX (Bu.stepE es (op,a) next loops) e:=by
 obtain⟨c35,c36,c37,c38⟩:=hc;by_cases hb:op=1∨op=2∨op=3∨op=4∨op=39
 ·rcases hb with rfl|rfl|rfl|rfl|rfl
  ·have t1:takes 1=0:=rfl;have t2:leaves 1=1:=rfl;exact Cy (by simp) rfl (Ck 1 (.inr (by simp only;omega)) (.inl (by decide)) (.inl (by decide))) (Dx rfl)
  ·exact Wh _
  ·have t1:takes 3=1:=rfl;have t2:leaves 3=2:=rfl;exact Cy (by simp) rfl (Ck 3 (.inr (by simp only;omega)) (.inr (by simp only;omega)) (.inl (by decide))) (Dx rfl)
  ·have t1:takes 4=2:=rfl;have t2:leaves 4=2:=rfl;refine OkX.append (a:=[⟨40,63,next-1,0,0⟩]) (Cy (by simp) rfl (Ck 3 (.inr (by simp only;omega)) (.inr (by simp only;omega)) (.inl (by decide))) (Dx rfl)) (OkX.append (a:=[⟨40,next-1,next-2,0,0⟩]) (b:=[⟨40,next-2,63,0,0⟩]) (Cy (by simp) rfl (Ck 3 (.inr (by simp only;omega)) (.inr (by simp only;omega)) (.inl (by decide))) (Dx rfl)) (Cy (by simp) rfl (Ck 3 (.inr (by simp only;omega)) (.inr (by simp only;omega)) (.inl (by decide))) (Dx rfl)))
  ·have t1:takes 39=0:=rfl;have t2:leaves 39=1:=rfl;exact Cy (by simp) rfl (Ck 1 (.inr (by simp only;omega)) (.inl (by decide)) (.inl (by decide))) (Dx rfl)
 ·have hn:op≠1∧op≠2∧op≠3∧op≠4∧op≠35∧op≠36∧op≠37∧op≠38∧op≠39:=by omega
  have hlp:Sr.leaps op=false:=Da (by omega);have hu2:=Zcr hop hn;rw[Ix es a next loops hn];unfold Bu.plainE;simp only;rcases Un hop hn with⟨hu,ht,hl⟩|⟨hu,ht,hl⟩|⟨hu,ht,hl⟩|⟨ho,hu,ht,hl⟩
  ·rw[if_pos hu];exact Cy (by show op≠42;omega) hu2 (by simp only;rw[hu];exact Ck 3 (.inr (by simp only;omega)) (.inr (by simp only;omega)) (.inl (by decide))) (Dx hlp)
  ·rw[if_neg (by omega),if_pos hu];exact Cy (by show op≠42;omega) hu2 (by simp only;rw[hu];exact Ck 7 (.inr (by simp only;omega)) (.inr (by simp only;omega)) (.inr (by simp only;omega))) (Dx hlp)
  ·rw[if_neg (by omega),if_neg (by omega),if_pos hu];exact Cy (by show op≠42;omega) hu2 (by simp only;rw[hu];exact Ck 6 (.inl (by decide)) (.inr (by simp only;omega)) (.inr (by simp only;omega))) (Dx hlp)
  ·rw[if_neg (by omega),if_neg (by omega),if_neg (by omega)];exact Cy (by show op≠42;omega) hu2 (by simp only;rw[hu];exact Ck 0 (.inl (by decide)) (.inl (by decide)) (.inl (by decide))) (Dx hlp)
theorem Zav {body:List Sr.Reg} (h:OkX body 0) (loops:Nat) (hl:loops≤20) {top:Int} (ht:0≤top∧top<64) (e:Nat):OkX (Bu.loopE body top loops) e:=by
 unfold Bu.loopE;refine OkX.append (a:=[⟨40,32+(loops:Int),top,0,0⟩]) (Cy (by simp) rfl (Ck 3 (.inr (by simp only;omega)) (.inr (by simp only;omega)) (.inl (by decide))) (Dx rfl)) ?_;refine(Ra (off:=fun k=>k*(1+body.length)) (by simp) 16 e (fun k _=>by simp only[List.length_cons,Nat.succ_mul];omega) fun k hk=>?_).1;refine OkX.append (a:=[⟨41,0,32+(loops:Int),(k:Int),(16-(k:Int))*(1+(body.length:Int))-1⟩]) (Cy (by simp) rfl (Ck 2 (.inl (by decide)) (.inr (by simp only;omega)) (.inl (by decide))) fun _=>?_) (h.mono (by omega));have h16:k=0∨k=1∨k=2∨k=3∨k=4∨k=5∨k=6∨k=7∨k=8∨k=9∨k=10∨k=11∨k=12∨k=13∨k=14∨k=15:=by omega
 simp only;rcases h16 with rfl|rfl|rfl|rfl|rfl|rfl|rfl|rfl|rfl|rfl|rfl|rfl|rfl|rfl|rfl|rfl <;> omega
def GoodC (es:List Bu.Emit) (j:Nat) (c:Bd.Cost):Prop:=∀ (h:Int) (loops:Nat),c.need≤h→h+c.peak≤32→loops+j≤20→OkX (Bu.em es j h loops) 0
theorem Rp {l:List (Int×Int)} {fs:List Bd.Cost} {ps:List Bu.Plan} {c:Bd.Cost} {P:List Bd.Place} {es:List Bu.Emit} (htab:Tab l.length fs l c P) (hg:∀ i ci,fs[i]?=some ci→GoodC es i ci) (h0:Int) (loops:Nat) (hn:c.need≤h0) (hp:h0+c.peak≤32) (hl:loops+fs.length≤20):OkX (Bu.emitE es (Bu.planned l fs ps) h0 loops) 0:=by
 have hsrc:=Bu.planned_src ps htab;have hpl:=Bu.planned_of ps htab;generalize Bu.planned l fs ps=p at *;have hpn:(Bu.pieces es p h0 loops).length=p.steps.length:=Bu.pieces_len es p h0 loops;have hpc:∀ (i:Nat) s,p.steps[i]?=some s→(Bu.pieces es p h0 loops)[i]?=some (Bu.stepE es (s.op,s.a) (h0+s.high) loops):=fun i s hs=>by
  unfold Bu.pieces;rw[List.getElem?_map,hs];rfl
 have hfl:=Bu.fixed_len (Bu.pieces es p h0 loops) p.steps;unfold Bu.emitE;simp only;generalize Bu.pieces es p h0 loops=ls at *;refine(Ra (off:=Bu.begins ls) (by simp[Bu.begins]) p.steps.length 0 (fun k hk=>?_) fun k hk=>?_).1
 ·rw[hfl];exact(Bu.begins_succ ls (by rw[List.getD_eq_getElem?_getD,List.getElem?_eq_getElem (by omega)];rfl)).1
 ·obtain⟨s,hs⟩:∃ s,p.steps[k]?=some s:=⟨_,List.getElem?_eq_getElem hk⟩;have hls:=hpc k s hs;obtain⟨i,x,hx,hki,hci,hz,rfl⟩:=hsrc k s hs;have hlt:=(List.getElem?_eq_some_iff.1 hx).1;have hok:=htab.ok i x hx;obtain⟨a1,a2,a3⟩:=always_ok hok.al;obtain⟨b1,b2,b3,b4⟩:=hok.kn (hpl.known i (by omega) hki);have ht:=Lk x.1;have hle:=Jo x.1;have c1:(takes x.1:Int)≤h0+(Bd.pat P i).high:=by
   by_cases hc:x.1=37∨x.1=38
   ·rw[effect_call hc] at b1;simp only at b1;omega
   ·rw[effect_plain hc] at b1;simp only at b1;omega
  have c2:h0+(Bd.pat P i).high+leaves x.1≤32+takes x.1:=by
   by_cases hc:x.1=37∨x.1=38
   ·rw[effect_call hc] at b2;simp only at b2;omega
   ·rw[effect_plain hc] at b2;simp only at b2;omega
  have hbs:=(Bu.begins_succ ls hls).1;have hfx:Bu.fixed ls p.steps k=if Bu.isJump x.1 then Bu.setN (Bu.stepE es x (h0+(Bd.pat P i).high) loops) ((Bu.begins ls (Bu.cnt fs ps l (i+1+Bu.jump x)):Int)-Bu.begins ls k-1) else Bu.stepE es x (h0+(Bd.pat P i).high) loops:=by
   unfold Bu.fixed;simp only[hs];rw[List.getD_eq_getElem?_getD,hls];rfl
  rw[hfx];by_cases hjm:x.1=35∨x.1=36
  ·rw[if_pos (by unfold Bu.isJump;simpa using hjm)];have hj:Bu.jump x=x.2.toNat:=by unfold Bu.jump;rw[if_pos hjm]
   have htl:i+1+Bu.jump x≤l.length:=by have:=a2 hjm;omega
   have hstp:=(hpl.step i x hx hki).2;have hc1:Bu.cnt fs ps l (i+1)=k+1:=by
    rcases hstp with⟨_,_,q⟩|⟨q,_⟩
    ·omega
    ·omega
   have hcm:=Bu.cnt_mono fs ps l (i:=i+1) (j:=i+1+Bu.jump x) (by omega) htl;have hcf:=Bu.cnt_mono fs ps l (i:=i+1+Bu.jump x) (j:=l.length) htl Ad;rw[hpl.fin] at hcf;have hb1:=Bu.begins_le ls _ _ hcm;have hb2:=Bu.begins_le ls _ _ hcf;rw[hc1] at hb1;rcases hjm with h35|h36
   ·have hsE:Bu.stepE es x (h0+(Bd.pat P i).high) loops=[⟨35,0,0,0,0⟩]:=by
     unfold Bu.stepE;rw[h35];simp
    have hbs:Bu.begins ls (k+1)=Bu.begins ls k+1:=by
     rw[hbs]
     show _+(Bu.stepE es x (h0+(Bd.pat P i).high) loops).length=_
     rw[hsE];rfl
    rw[hsE];exact Cy (by show (35:Int)≠42;omega) rfl (Ck 0 (.inl (by decide)) (.inl (by decide)) (.inl (by decide))) fun _=>by
     show 0≤(Bu.begins ls (Bu.cnt fs ps l (i+1+Bu.jump x)):Int)-Bu.begins ls k-1∧(Bu.begins ls (Bu.cnt fs ps l (i+1+Bu.jump x)):Int)-Bu.begins ls k-1≤_
     omega
   ·have htk:takes x.1=1:=by rw[h36];rfl
    have htv:leaves x.1=0:=by rw[h36];rfl
    have hsE:Bu.stepE es x (h0+(Bd.pat P i).high) loops=[⟨36,0,h0+(Bd.pat P i).high-1,0,0⟩]:=by
     unfold Bu.stepE;rw[h36];simp
    have hbs:Bu.begins ls (k+1)=Bu.begins ls k+1:=by
     rw[hbs]
     show _+(Bu.stepE es x (h0+(Bd.pat P i).high) loops).length=_
     rw[hsE];rfl
    rw[hsE];exact Cy (by show (36:Int)≠42;omega) rfl (Ck 2 (.inl (by decide)) (.inr (by show 0≤h0+(Bd.pat P i).high-1∧h0+(Bd.pat P i).high-1<64;omega)) (.inl (by decide))) fun _=>by
     show 0≤(Bu.begins ls (Bu.cnt fs ps l (i+1+Bu.jump x)):Int)-Bu.begins ls k-1∧(Bu.begins ls (Bu.cnt fs ps l (i+1+Bu.jump x)):Int)-Bu.begins ls k-1≤_
     omega
  ·rw[if_neg (by rw[Rb hjm];decide)];by_cases hc:x.1=37∨x.1=38
   ·obtain⟨q1,q2⟩:=a3 hc;obtain⟨j,hj⟩:∃ j:Nat,x.2=j:=⟨x.2.toNat,by omega⟩;have hjl:j<fs.length:=by omega
    obtain⟨cj,hcj⟩:∃ cj,fs[j]?=some cj:=⟨fs[j],List.getElem?_eq_getElem hjl⟩;have hG:=hg j cj hcj;have hfn:Bd.fn fs x.2=cj:=by unfold Bd.fn;rw[hj,List.getD_eq_getElem?_getD,Int.toNat_natCast,hcj];rfl
    rw[effect_call hc,hfn] at b1 b2;simp only at b1 b2;rcases hc with hc|hc
    ·have htk:takes x.1=0∧leaves x.1=0:=by rw[hc];exact⟨rfl,rfl⟩
     have hsE:Bu.stepE es x (h0+(Bd.pat P i).high) loops=Bu.em es j (h0+(Bd.pat P i).high) loops:=by
      unfold Bu.stepE;rw[hc,hj];simp
     rw[hsE];exact(hG _ loops (by omega) (by omega) (by omega)).mono (by omega)
    ·have htk:takes x.1=1∧leaves x.1=0:=by rw[hc];exact⟨rfl,rfl⟩
     have hsE:Bu.stepE es x (h0+(Bd.pat P i).high) loops=Bu.loopE (Bu.em es j (h0+(Bd.pat P i).high-1) ((loops+1:Nat):Int)) (h0+(Bd.pat P i).high-1) loops:=by
      unfold Bu.stepE;rw[hc,hj];simp
     rw[hsE];exact Zav (hG _ (loops+1) (by omega) (by omega) (by omega)) loops (by omega) (by omega) _
   ·exact Zp es loops _ a1 ⟨by omega,by omega,by omega,by omega⟩ c1 c2
theorem Zet {ll:List (List (Int×Int))} {fs:List Bd.Cost} {ps:List Bu.Plan} {es:List Bu.Emit} (h:Bu.All ll fs ps es):∀ (j:Nat) lj,ll[j]?=some lj→∃ cj,fs[j]?=some cj∧GoodC es j cj:=by
 intro j
 induction j using Nat.strongRecOn with
 | _ j ih =>
 intro lj hj;obtain⟨cj,P,hcj,hcode,hP,hpl,hp,hem,_⟩:=h.fn j lj hj;have hjl:=(List.getElem?_eq_some_iff.1 hj).1;have hfl:=h.fl;have htl:(fs.take j).length=j:=by rw[List.length_take];omega
 refine⟨cj,hcj,fun h0 loops h1 h2 h3=>?_⟩;rw[hem];refine Rp hP (fun i ci hi=>?_) h0 loops h1 h2 (by omega);have hij:=(List.getElem?_eq_some_iff.1 hi).1;rw[htl] at hij;rw[List.getElem?_take,if_pos hij] at hi;obtain⟨ci',q1,q2⟩:=ih i hij _ (List.getElem?_eq_getElem (by omega));rw[hi] at q1
 injection q1 with q1
 subst q1;exact q2
theorem Ux {es:List Bu.Emit} {ps:List Bu.Plan} {x:Int×Int} (h0:0<Bu.sizeOf x ps) (h1:(x.1=37∨x.1=38)→∀ high loops,((Bu.em es x.2 high loops).length:Int)≤(Bu.pl ps x.2).size) (next loops:Int):((Bu.stepE es x next loops).length:Int)≤Bu.sizeOf x ps:=by
 unfold Bu.stepE;split
 ·simp only[List.length_nil];omega
 ·split
  ·simp only[List.length_cons,List.length_nil];omega
  ·split
   ·simp only[List.length_cons,List.length_nil];omega
   ·split
    ·simp only[List.length_cons,List.length_nil];omega
    ·split
     ·rename_i h4;unfold Bu.sizeOf;rw[if_pos h4];simp
     ·split
      ·simp only[List.length_cons,List.length_nil];omega
      ·split
       ·simp only[List.length_cons,List.length_nil];omega
       ·split
        ·rename_i h4 _ _ h37;have:=h1 (.inl h37) next loops;unfold Bu.sizeOf;rw[if_neg h4,if_pos h37];exact this
        ·split
         ·rename_i h4 _ _ h37 h38;have:=h1 (.inr h38) (next-1) (loops+1);unfold Bu.sizeOf;rw[if_neg h4,if_neg h37,if_pos h38,Nk];omega
         ·unfold Bu.plainE
          (repeat' split) <;> (simp only[List.length_cons,List.length_nil];omega)
theorem Ri (es:List Bu.Emit) (ps:List Bu.Plan) (high loops:Int):∀ (l:List Bu.PS),(∀ s∈l,((Bu.stepE es (s.op,s.a) (high+s.high) loops).length:Int)≤Bu.sizeOf (s.op,s.a) ps)→(((l.map fun s=>Bu.stepE es (s.op,s.a) (high+s.high) loops).flatten.length:Nat):Int)≤Bu.sumZ ps l
 | [],_=>by simp[Bu.sumZ]
 | s::l,h=>by
  have h1:=Ri es ps high loops l fun t ht=>h t (by simp[ht])
  have h2:=h s (by simp);have e:Bu.sumZ ps (s::l)=Bu.sizeOf (s.op,s.a) ps+Bu.sumZ ps l:=by unfold Bu.sumZ;simp
  rw[List.map_cons,List.flatten_cons,List.length_append,e];omega
theorem planned_len {fs:List Bd.Cost} {ps:List Bu.Plan} {es:List Bu.Emit} {l:List (Int×Int)} {c:Bd.Cost} {P:List Bd.Place} (h:Tab l.length fs l c P) (hg:∀ j:Nat,j<fs.length→(Bu.pl ps j).size≤20000→∀ high loops,((Bu.em es j high loops).length:Int)≤(Bu.pl ps j).size) (hs:(Bu.planned l fs ps).size≤20000) (hb:∀ j:Nat,j<fs.length→0≤(Bu.pl ps j).size) (high loops:Int):((Bu.emitE es (Bu.planned l fs ps) high loops).length:Int)≤(Bu.planned l fs ps).size:=by
 obtain⟨h1,h2⟩:=Bu.planned_size fs ps l;obtain⟨_,h3⟩:=Bu.sumZ_nonneg ps _ fun s hs=>(h2 s hs).1
 rw[Bu.emitE_len];refine Int.le_trans (Ri es ps high loops _ fun s hst=>Ux (h2 s hst).1 (fun hc hi lo=>?_) _ _) (by omega);obtain⟨q1,q2⟩:=Bu.tab_calls h _ (h2 s hst).2 hc;simp only at q1 q2 hc;obtain⟨j,hj⟩:∃ j:Nat,s.a=j:=⟨s.a.toNat,by omega⟩;have hsz:=h3 s hst;have hbj:=hb j (by omega);simp only;rw[hj];refine hg j (by omega) ?_ hi lo;rw[hj] at hsz;unfold Bu.sizeOf at hsz;rcases hc with hc|hc
 ·rw[if_neg (by simp only;omega),if_pos hc] at hsz;simp only at hsz;omega
 ·rw[if_neg (by simp only;omega),if_neg (by simp only;omega),if_pos hc] at hsz;simp only at hsz;omega
theorem len_all {ll:List (List (Int×Int))} {fs:List Bd.Cost} {ps:List Bu.Plan} {es:List Bu.Emit} (h:Bu.All ll fs ps es):∀ (j:Nat),j<ll.length→0≤(Bu.pl ps j).size∧(Bu.pl ps j).size≤20001∧((Bu.pl ps j).size≤20000→∀ high loops,((Bu.em es j high loops).length:Int)≤(Bu.pl ps j).size):=by
 intro j
 induction j using Nat.strongRecOn with
 | _ j ih =>
 intro hjl;obtain⟨cj,P,hcj,hcode,hP,hpl,hp,hem,_⟩:=h.fn j _ (List.getElem?_eq_getElem hjl);have hfl:=h.fl;have htl:(fs.take j).length=j:=by rw[List.length_take];omega
 obtain⟨b1,b2,_⟩:=Bu.planned_bds (fs.take j) ps ll[j];rw[hpl,hem];exact⟨b1,b2,fun hs hi lo=>planned_len hP (fun i hi=>(ih i (by omega) (by omega)).2.2) hs (fun i hi=>(ih i (by omega) (by omega)).1) hi lo⟩
theorem fitsAll_of:∀ (code:List Sr.Reg),(∀ (i:Nat) r,code[i]?=some r→Sr.fits r ((code.length:Int)-1-i)=true)→Sr.fitsAll code=true
 | [],_=>rfl
 | x::l,h=>by
  have h0:=h 0 x rfl;rw[show (((x::l).length:Nat):Int)-1-(0:Nat)=l.length by rw[List.length_cons];omega] at h0;unfold Sr.fitsAll;rw[h0,Bool.true_and];refine fitsAll_of l fun i r hr=>?_
  have:=h (i+1) r (by simpa using hr)
  rwa [show (((x::l).length:Nat):Int)-1-((i+1:Nat):Int)=(l.length:Int)-1-i by rw[List.length_cons];omega] at this
theorem Vp {T:List Sr.Reg} {n:Int} (h:OkX T 0) (hl:T.length≤79999) (hn:0≤n∧n≤64):Sr.right (T++[⟨42,0,0,0,n⟩])=true:=by
 unfold Sr.right;rw[List.getLast?_concat];simp only[Bool.and_eq_true,decide_eq_true_eq,List.length_append,List.length_singleton];refine⟨⟨by omega,fitsAll_of _ fun i r hr=>?_⟩,hn⟩;rw[List.length_append,List.length_singleton];by_cases hi:i<T.length
 ·rw[List.getElem?_append_left hi] at hr;obtain⟨h1,h2,h3,h4⟩:=h i r hr;unfold Sr.fits;rw[h2,h3];have e1:decide (r.op=42)=false:=by simpa using h1
  have e2:decide (((T.length+1:Nat):Int)-1-i=0)=false:=by simp;omega
  rw[e1,e2];cases hlp:Sr.leaps r.op with
  | false=>rfl
  | true =>
   have:=h4 hlp;have e3:decide (0≤r.n∧r.n<((T.length+1:Nat):Int)-1-i)=true:=by simp;omega
   rw[e3];rfl
 ·have hi2:i-T.length=0:=by
   rw[List.getElem?_append_right (by omega)] at hr;have:=(List.getElem?_eq_some_iff.1 hr).1;simp only[List.length_cons,List.length_nil] at this;omega
  rw[List.getElem?_append_right (by omega),hi2] at hr;simp only[List.getElem?_cons_zero,Option.some.injEq] at hr;subst hr;obtain rfl:i=T.length:=by omega
  unfold Sr.fits;have e2:decide (((T.length+1:Nat):Int)-1-(T.length:Int)=0)=true:=by simp
  rw[e2];rfl
theorem build_right {ll:List (List (Int×Int))} {l:List (Int×Int)} {code:List Sr.Reg} (hb:Bu.build ll l=(code,0)):Sr.right code=true∧code.length≤20000:=by
 have hb0:=hb;unfold Bu.build at hb;simp only at hb;split at hb
 ·rename_i hne
  injection hb with _ hb
  exact absurd hb hne
 ·rename_i hpz;rcases hpr:Bd.program ll l with⟨c,e⟩
  rw[hpr] at hpz hb;simp only[ne_eq,Classical.not_not] at hpz;subst hpz;split at hb
  ·simp at hb
  ·rename_i hov
   injection hb with hb _
   have h:=hpr;unfold Bd.program at h;split at h
   ·rename_i hne;simp at h;exact absurd h.2 hne
   ·rename_i hz;have hA:=Bu.all_of (ll:=ll) (by omega);generalize (Bd.funcs ll).1=fs at *;generalize Bu.plans fs ll []=ps at *;generalize Bu.emits ps []=es at *;unfold Bd.whole at h;split at h
    ·rename_i hne;simp at h;exact absurd h.2 hne
    ·rename_i hz2;split at h
     ·simp at h
     ·rename_i hnd
      injection h with hcc _
      have hcode:=Bu.code_zero (l:=l) (cs:=fs) (by omega);rw[hcc] at hcode hnd;obtain⟨P,hP⟩:=code_tab hcode;have hfl:=hA.fl;have h20:=hA.l20;have hpk:=hP.k1;have hlen:=planned_len hP (fun i hi=>(len_all hA i (by omega)).2.2) (by omega) (fun i hi=>(len_all hA i (by omega)).1) 0 0;have hok:OkX (Bu.emitE es (Bu.planned l fs ps) 0 ((0:Nat):Int)) 0:=Rp hP (fun i ci hi=>by
       have hij:=(List.getElem?_eq_some_iff.1 hi).1;obtain⟨ci',q1,q2⟩:=Zet hA i _ (List.getElem?_eq_getElem (by omega));rw[hi] at q1
       injection q1 with q1
       subst q1;exact q2) 0 0 (by omega) (by omega) (by omega)
      have hd:=(build_sim hpr hb0 [] 0 ⟨[],[],[],[]⟩).2.2.2.2;rw[←hb];exact⟨Vp hok (by have:=hlen;omega) (by simp only;omega),by rw[List.length_append,List.length_singleton];omega⟩
end Sm
end Go.Proofs.YtnhebmgibiomnaaGreat
