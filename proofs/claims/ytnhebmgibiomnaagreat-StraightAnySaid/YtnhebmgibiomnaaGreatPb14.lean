/- Parts of the proof, joined: MaX MaU MaV. -/
import Derived.BigRegion
import Derived.Deep.LoopGhost
import Derived.Deep.RegionHeld3
import Derived.Laws.EntriesVeiled
import Derived.Maps.Keyed
import Derived.StillTailTactics
import Derived.Test.YtnhebmgibiomnaaGreatPb11
set_option linter.unusedVariables false
set_option linter.unusedSimpArgs false
set_option maxRecDepth 100000
set_option maxHeartbeats 8000000
namespace Go.Proofs.YtnhebmgibiomnaaGreat
open Go.RowKit Mc Go.ChangeMaps
theorem Ib:∀ (es:List MapEntry) (x:Int) (i:Nat),(∀ e∈es,∃ b,e.key=.int .i64 b∧x≠b)→Instr.findNow (.int .i64) (.int .i64 x) es i=some none
 | [],_,_,_=>rfl
 | e::es,x,i,h=>by
  obtain⟨b,hb,hne⟩:=h e List.mem_cons_self;unfold Instr.findNow;rw[hb];have:Instr.sameNow (.int .i64) (.int .i64 x) (.int .i64 b)=some false:=by simp[Instr.sameNow,hne]
  rw[this];exact Ib es x (i+1) fun e' he'=>h e' (List.mem_cons_of_mem _ he')
theorem Ia:∀ (es:List MapEntry) (x:Int) (i j:Nat) (e:MapEntry),es[j]?=some e→e.key=.int .i64 x→(∀ j' e',j'<j→es[j']?=some e'→∃ b,e'.key=.int .i64 b∧x≠b)→Instr.findNow (.int .i64) (.int .i64 x) es i=some (some (i+j,e.val))
 | [],_,_,_,_,h,_,_=>by simp at h
 | e0::es,x,i,0,e,h,hk,_=>by
  simp only[List.getElem?_cons_zero,Option.some.injEq] at h;subst h;unfold Instr.findNow;rw[hk];have:Instr.sameNow (.int .i64) (.int .i64 x) (.int .i64 x)=some true:=by simp[Instr.sameNow]
  rw[this];rfl
 | e0::es,x,i,j+1,e,h,hk,ho=>by
  obtain⟨b,hb,hne⟩:=ho 0 e0 (by omega) rfl;simp only[List.getElem?_cons_succ] at h;unfold Instr.findNow;rw[hb];have:Instr.sameNow (.int .i64) (.int .i64 x) (.int .i64 b)=some false:=by simp[Instr.sameNow,hne]
  rw[this];have:=Ia es x (i+1) j e h hk fun j' e' hj' he'=>ho (j'+1) e' (by omega) (by simpa using he')
  rw[show i+(j+1)=i+1+j by omega];exact this
theorem Ic {P:Program} {k:TypeId} (hk:P.underlying k=some (.int .i64)) (w:World) (em:Bool) (x:Int):(Instr.checkKey em 10000 k (.int .i64 x)).run P w=.ok () w:=by
 unfold Instr.checkKey;simp[run_underlying hk]
theorem Gh {P:Program} {w:World} {t k e:TypeId} (ht:P.underlying t=some (.map k e)) (hk:P.underlying k=some (.int .i64)) {r:Nat} {es:Array MapEntry} {clock:Nat} (hb:w.heap[r]?=some (.map es clock)) {x:Int} {v:Value}
  (hno:∀ e∈es.toList,∃ b,e.key=.int .i64 b∧x≠b):(Instr.mapUpdate t (.map (some r)) (.int .i64 x) v).run P w=.ok () (setBlock w r (.map (es.push ⟨.int .i64 x,v,clock⟩) (clock+1))):=by
 have h1:(Instr.findKey k (.int .i64 x) es.toList).run P w=.ok none w:=by
  unfold Instr.findKey;simp[run_underlying hk,Ib _ _ _ hno]
 simp[Instr.mapUpdate,run_underlying ht,MapKept.run_getObj_map hb,Ic hk,h1,MapKept.run_setObj_map _ hb,Result.andThen,setBlock]
theorem Gt {P:Program} {w:World} {t k e:TypeId} (ht:P.underlying t=some (.map k e)) (hk:P.underlying k=some (.int .i64)) {r:Nat} {es:Array MapEntry} {clock:Nat} (hb:w.heap[r]?=some (.map es clock)) {x:Int} {j:Nat} {en:MapEntry}
  (hj:es.toList[j]?=some en) (hkey:en.key=.int .i64 x) (ho:∀ j' e',j'<j→es.toList[j']?=some e'→∃ b,e'.key=.int .i64 b∧x≠b):(Instr.lookup t (.map (some r)) (.int .i64 x) false).run P w=.ok en.val w:=by
 have h1:(Instr.findKey k (.int .i64 x) es.toList).run P w=.ok (some (0+j,en.val)) w:=by
  unfold Instr.findKey;simp[run_underlying hk,Ia _ _ 0 _ _ hj hkey ho]
 simp[Instr.lookup,run_underlying ht,MapKept.run_getObj_map hb,Ic hk,h1,Result.andThen]
theorem Zg (f:Fn) (w:World):Calls Tryz.prog 172 #[.func f #[] #[]] w fun e w'=>e=.returned (.func (.func 250) #[] #[.pointer (some ⟨w.heap.size,0,none⟩)])∧w.alloc (.cells #[.func f #[] #[]] 74)=w':=by
 go_enter Tryz.func172,Tryz.ntmps172;go_wp2;go_ret;exact⟨rfl,rfl⟩
theorem Zal (f:Fn) (w:World):Calls Tryz.prog 179 #[.func f #[] #[]] w fun e w'=>e=.returned (.func (.func 251) #[] #[.pointer (some ⟨w.heap.size,0,none⟩)])∧w.alloc (.cells #[.func f #[] #[]] 117)=w':=by
 go_enter Tryz.func179,Tryz.ntmps179;go_wp2;go_ret;exact⟨rfl,rfl⟩
def DI (w0:World) (n:Nat) (W:World):Prop :=
 ∃ bs,W.heap[w0.heap.size]?=some (.map (Eg bs n).toArray n)∧(∀ i,1≤i→i≤n→DeedBox W (fun k=>w0.heap.size<k∧k<W.heap.size) bs i)∧Below w0.heap.size w0 W
theorem Py (bs:Nat→Nat) (n:Nat):Eg bs (n+1)=Eg bs n++[⟨.int .i64 ((n+1:Nat):Int),Kk bs (n+1),n⟩]:=by
 unfold Eg;rw[List.range_succ,List.map_append];rfl
theorem Nt {bs bs':Nat→Nat} {n:Nat} (h:∀ i,i≤n→bs i=bs' i):Eg bs n=Eg bs' n:=by
 unfold Eg;refine List.map_congr_left fun i hi=>?_
 have:=List.mem_range.1 hi;unfold Kk;rw[h (i+1) (by omega)]
theorem Pz {bs:Nat→Nat} {n:Nat} {x:Int} (hx:(n:Int)<x):∀ e∈(Eg bs n),∃ b,e.key=.int .i64 b∧x≠b:=by
 intro e he;unfold Eg at he;obtain⟨i,hi,rfl⟩:=List.mem_map.1 he;have:=List.mem_range.1 hi;exact⟨_,rfl,by omega⟩
theorem DeedBox.keep {W W':World} {O O':Nat→Prop} {bs bs':Nat→Nat} {i:Nat} (h:DeedBox W O bs i) (hb:bs i=bs' i) (hk:∀ g t cs,Blk W g t cs→Blk W' g t cs) (hO:∀ k,O k→O' k):DeedBox W' O' bs' i:=by
 unfold DeedBox at h ⊢;split at h
 ·exact⟨hO _ (hb ▸ h.1),hk _ _ _ (hb ▸ h.2)⟩
 ·trivial
theorem Ei {W:World} {r:Nat} {es es':Array MapEntry} {c c':Nat} (hr:W.heap[r]?=some (.map es c)) {g:Nat} {t:TypeId} {cs:Array Value} (h:Blk W g t cs):Blk (setBlock W r (.map es' c')) g t cs:=by
 unfold Blk at h ⊢;have hne:r≠g:=by rintro rfl;rw[hr] at h;cases h
 simp only[setBlock];rw[Array.getElem?_setIfInBounds_ne hne];exact h
theorem DI.add {w0 W:World} {n:Nat} (h:DI w0 n W) (v:Value) (b:Nat) (hv:v=Kk (fun _=>b) (n+1)) (hbox:DeedBox W (fun k=>w0.heap.size<k∧k<W.heap.size) (fun _=>b) (n+1)) :
  ∃ es,W.heap[w0.heap.size]?=some (.map es n)∧(∀ e∈es.toList,∃ b,e.key=.int .i64 b∧((n+1:Nat):Int)≠b)∧DI w0 (n+1) (setBlock W w0.heap.size (.map (es.push ⟨.int .i64 ((n+1:Nat):Int),v,n⟩) (n+1))):=by
 obtain⟨bs,h1,h2,h3⟩:=h;have hlt:w0.heap.size<W.heap.size:=(Array.getElem?_eq_some_iff.1 h1).1;refine⟨_,h1,Pz (by omega),fun i=>if i=n+1 then b else bs i,?_,?_,?_⟩
 ·simp only[setBlock];rw[Array.getElem?_setIfInBounds_self_of_lt hlt,Py,Nt (bs:=fun i=>if i=n+1 then b else bs i) (bs':=bs) (fun i hi=>by rw[if_neg (by omega)])];subst hv;unfold Kk;simp
 ·intro i hi1 hi2;have hz:∀ k,(w0.heap.size<k∧k<W.heap.size)→(w0.heap.size<k∧k<(setBlock W w0.heap.size (.map ((Eg bs n).toArray.push ⟨.int .i64 ((n+1:Nat):Int),v,n⟩) (n+1))).heap.size):=fun k hk=>by simpa [setBlock] using hk
  by_cases hn:i=n+1
  ·subst hn;exact hbox.keep (by simp) (fun g t cs hb=>Ei h1 hb) hz
  ·exact(h2 i hi1 (by omega)).keep (by rw[if_neg hn]) (fun g t cs hb=>Ei h1 hb) hz
 ·exact⟨h3.os,h3.tape,h3.output,by simpa [setBlock] using h3.size,fun k hk=>by
   simp only[setBlock];rw[Array.getElem?_setIfInBounds_ne (by omega)];exact h3.block k hk⟩
theorem DI.alloc {w0 W:World} {n:Nat} (h:DI w0 n W) (o:Obj):DI w0 n (W.alloc o):=by
 obtain⟨bs,h1,h2,h3⟩:=h;have hlt:w0.heap.size<W.heap.size:=(Array.getElem?_eq_some_iff.1 h1).1;exact⟨bs,(Below.heap_alloc W o _ hlt).trans h1,fun i a b=>(h2 i a b).keep rfl (fun g t cs hb=>hb.alloc o) (fun k hk=>⟨hk.1,by have:=hk.2;simp;omega⟩),h3.alloc (by omega) o⟩
theorem DI.lt {w0 W:World} {n:Nat} (h:DI w0 n W):w0.heap.size<W.heap.size:=by
 obtain⟨bs,h1,_⟩:=h;exact(Array.getElem?_eq_some_iff.1 h1).1
theorem Ir {ops:Array Oper} {rest:List Oper} {o:Oper} {a:Act} {Q:Exit→Act→World→Prop} (w0 W:World) (n:Nat) (hgd:o.guard=none) (m k x:Operand) (ho:o.op=.insert 207 m k x) (hdst:o.dst=none)
  (hm:a.eval m=.map (some w0.heap.size)) (hkv:a.eval k=.int .i64 ((n+1:Nat):Int)) (v:Value) (hx:a.eval x=v) (b:Nat) (hd:DI w0 n W) (hv:v=Kk (fun _=>b) (n+1)) (hbox:DeedBox W (fun k=>w0.heap.size<k∧k<W.heap.size) (fun _=>b) (n+1))
  (h:∀ W',DI w0 (n+1) W'→wpList Tryz.prog ops Q rest a W'):wpList Tryz.prog ops Q (o::rest) a W:=by
 refine wpList_plain hgd fun K' hK'=>?_
 obtain⟨es,h1,h2,h3⟩:=hd.add v b hv hbox;have h4:=h _ h3;generalize ((n+1:Nat):Int)=X at *;unfold Oper.wp;simp only[execOp,ho,hm,hkv,hx];simp[Gh (P:=Tryz.prog) (w:=W) Tryz.underlying207 Tryz.underlying3 h1 (v:=v) h2,Result.andThen];unfold Oper.upon;exact hK' _ _ (by rw[hdst];exact h4)
theorem Ja {P:Program} (w:World) (t:TypeId):Sem.run P (Instr.makeMap t none) w=.ok (.map (some w.heap.size)) (w.alloc (.map #[] 0)):=by
 unfold Instr.makeMap;simp[newObj,Sem.run]
theorem DI.start (w:World):DI w 0 (w.alloc (.map #[] 0)) :=
 ⟨fun _=>0,heap_alloc_new w _,fun i h1 h2=>by omega,aliasBr.alloc Ad _⟩
theorem DI.box {w0 W:World} {n:Nat} (h:DI w0 n W) (f:Fn) (t:TypeId):DI w0 n (W.alloc (.cells #[.func f #[] #[]] t))∧(w0.heap.size<W.heap.size∧W.heap.size<(W.alloc (.cells #[.func f #[] #[]] t)).heap.size)∧Blk (W.alloc (.cells #[.func f #[] #[]] t)) W.heap.size t #[.func f #[] #[]] :=
 ⟨h.alloc _,⟨h.lt,by simp⟩,Blk.new _ _ _⟩
def DB (w0:World) (n b:Nat) (t:TypeId) (f:Fn) (W:World):Prop:=DI w0 n W∧(w0.heap.size<b∧b<W.heap.size)∧Blk W b t #[.func f #[] #[]]
theorem two_mk {w0 W:World} {n:Nat} (h:DI w0 n W) (f:Fn):Calls Tryz.prog 172 #[.func f #[] #[]] W fun e w'=>e=.returned (.func (.func 250) #[] #[.pointer (some ⟨W.heap.size,0,none⟩)])∧DB w0 n W.heap.size 74 f w' :=
 (Zg f W).mono fun _ _ hh=>⟨hh.1,by rw[←hh.2];exact h.box f _⟩
theorem one_mk {w0 W:World} {n:Nat} (h:DI w0 n W) (f:Fn):Calls Tryz.prog 179 #[.func f #[] #[]] W fun e w'=>e=.returned (.func (.func 251) #[] #[.pointer (some ⟨W.heap.size,0,none⟩)])∧DB w0 n W.heap.size 117 f w' :=
 (Zal f W).mono fun _ _ hh=>⟨hh.1,by rw[←hh.2];exact h.box f _⟩
attribute [local go_sem] Ja
theorem Xz (w:World):Calls Tryz.prog 99 #[] w fun e w'=>e=.returned (.map (some w.heap.size))∧DI w 39 w':=by
 go_enter Tryz.func99,Tryz.ntmps99;have HD:=Aa (DI.start w);go_wp2_with (first
  | (refine Ir _ _ _ rfl _ _ _ rfl rfl rfl rfl _ rfl 0 HD.out rfl trivial ?_;intro W hW;clear HD;have HD:=Aa hW;clear hW)
  | (refine Ir _ _ _ rfl _ _ _ rfl rfl rfl rfl _ rfl _ HD.out.1 rfl HD.out.2 ?_;intro W hW;clear HD;have HD:=Aa hW;clear hW)
  | (go_at_call 172;refine(two_mk HD.out _).mono ?_;rintro e w9 ⟨rfl,hd⟩;clear HD;have HD:=Aa hd;clear hd)
  | (go_at_call 179;refine(one_mk HD.out _).mono ?_;rintro e w9 ⟨rfl,hd⟩;clear HD;have HD:=Aa hd;clear hd))
 go_ret;exact⟨rfl,HD.out⟩
end Go.Proofs.YtnhebmgibiomnaaGreat
namespace Go.Proofs.YtnhebmgibiomnaaGreat
open Go.RowKit Mc
def Ug (op:Int):Bool:=decide (1≤op∧op≤39)
theorem Vr {k k':IntKind} {a b a' b':Int} {c d:Bool} (h:a=b) (h':a'=b') (h'':c=d):Ending.returned (.tuple #[.int k a,.int k' a',.bool c])=.returned (.tuple #[.int k b,.int k' b',.bool d]):=by rw[h,h',h'']
theorem Bq (op:Int) (w:World) :
  Calls Tryz.prog 237 #[.int .i64 op] w fun e w'=>e=.returned (.tuple #[.int .i64 (takes op:Nat),.int .i64 (leaves op:Nat),.bool (Ug op)])∧w=w':=by
 go_enter Tryz.func237,Tryz.ntmps237;go_wp2
 all_goals (go_ret3;go_light;refine⟨Vr ?_ ?_ ?_,rfl⟩ <;> first|(simp_all [takes,leaves,Ug];done)|(simp_all [Ug];omega))
theorem Dn (op:Int):takes op≤2:=by unfold takes;(repeat' split) <;> omega
theorem Cz (op:Int):leaves op≤2:=by unfold leaves;(repeat' split) <;> omega
theorem Zb {s:St} {op a bh:Int} (h:¬ (1≤op∧op≤39)):De s op a bh=50:=by unfold De;rw[if_pos (by omega)]
theorem Za {s:St} {op a bh:Int} (h:1≤op∧op≤39) (h1:s.stack.length<takes op∨32+takes op<s.stack.length+leaves op):De s op a bh=51:=by unfold De;rw[if_neg (by omega),if_pos h1]
theorem Zd {s:St} {op a bh:Int} (h:1≤op∧op≤39) (h1:¬ (s.stack.length<takes op∨32+takes op<s.stack.length+leaves op)) (h2:op=35∨op=36):De s op a bh=if a<0∨bh<a then 52 else 0:=by
 unfold De;rw[if_neg (by omega),if_neg h1];by_cases h3:a<0∨bh<a
 ·rw[if_pos ⟨h2,h3⟩,if_pos h3]
 ·rw[if_neg (fun e=>h3 e.2),if_neg (by omega),if_neg h3]
theorem Zf {s:St} {op a bh:Int} (h:1≤op∧op≤39) (h1:¬ (s.stack.length<takes op∨32+takes op<s.stack.length+leaves op)) (h2:op=37∨op=38):De s op a bh=if a<0∨(s.funcs.length:Int)≤a∨20<s.frames.length then 54 else 0:=by
 unfold De;rw[if_neg (by omega),if_neg h1,if_neg (by omega)];by_cases h3:a<0∨(s.funcs.length:Int)≤a∨20<s.frames.length
 ·rw[if_pos ⟨h2,h3⟩,if_pos h3]
 ·rw[if_neg (fun e=>h3 e.2),if_neg h3]
theorem Zc {s:St} {op a bh:Int} (h:1≤op∧op≤39) (h1:¬ (s.stack.length<takes op∨32+takes op<s.stack.length+leaves op)) (h2:¬ (op=35∨op=36)) (h3:¬ (op=37∨op=38)):De s op a bh=0:=by
 unfold De;rw[if_neg (by omega),if_neg h1,if_neg (fun e=>h2 e.1),if_neg (fun e=>h3 e.1)]
theorem Zcm (w:World) (mb:Nat) (s:St) (op a bh:Int) (As Af Au:Option Addr) (cs cf cu:Nat) (lmb:mb<w.heap.size) (_c40:w.cell? ⟨mb,40,none⟩=some (.slice As s.stack.length cs)) (_c1:w.cell? ⟨mb,1,none⟩=some (.slice Af s.frames.length cf)) (_c0:w.cell? ⟨mb,0,none⟩=some (.slice Au s.funcs.length cu)) (_hsl:s.stack.length≤32) (_hfl:s.frames.length≤21) (_hul:s.funcs.length≤1000000) (ho:¬ (1≤op∧op≤39)) :
  Calls Tryz.prog 158 #[.pointer (some ⟨mb,0,none⟩),.agg #[.int .i64 op,.int .i64 a],.int .i64 bh] w fun e w'=>e=.returned (.int .i64 50)∧Below w.heap.size w w':=by
 have lmb1:mb<w.heap.size+1:=by omega
 have ht:=Dn op;have hl:=Cz op;generalize hT:takes op=T at *;generalize hV:leaves op=V at *;have HT:=Aa hT;have HV:=Aa hV;clear hT hV;have HB:=Aa (show Ug op=false from decide_eq_false ho);clear ho;go_enter Tryz.func158,Tryz.ntmps158;go_wp2_with fail
 refine(Bq _ _).mono ?_;rintro e w1 ⟨rfl,rfl⟩;rw[HT.out,HV.out,HB.out];go_wp2;go_ret;exact⟨rfl,aliasBr.alloc Ad _⟩
theorem Zcl (w:World) (mb:Nat) (s:St) (op a bh:Int) (As Af Au:Option Addr) (cs cf cu:Nat) (lmb:mb<w.heap.size) (c40:w.cell? ⟨mb,40,none⟩=some (.slice As s.stack.length cs)) (_c1:w.cell? ⟨mb,1,none⟩=some (.slice Af s.frames.length cf)) (_c0:w.cell? ⟨mb,0,none⟩=some (.slice Au s.funcs.length cu)) (hsl:s.stack.length≤32) (_hfl:s.frames.length≤21) (_hul:s.funcs.length≤1000000) (ho:1≤op∧op≤39) (h1:s.stack.length<takes op∨32+takes op<s.stack.length+leaves op) :
  Calls Tryz.prog 158 #[.pointer (some ⟨mb,0,none⟩),.agg #[.int .i64 op,.int .i64 a],.int .i64 bh] w fun e w'=>e=.returned (.int .i64 51)∧Below w.heap.size w w':=by
 have lmb1:mb<w.heap.size+1:=by omega
 have ht:=Dn op;have hl:=Cz op;generalize hT:takes op=T at *;generalize hV:leaves op=V at *;have HT:=Aa hT;have HV:=Aa hV;clear hT hV;have HB:=Aa (show Ug op=true from decide_eq_true ho);clear ho;by_cases h2:s.stack.length<T
 ·clear h1;go_enter Tryz.func158,Tryz.ntmps158;go_wp2_with fail
  refine(Bq _ _).mono ?_;rintro e w1 ⟨rfl,rfl⟩;rw[HT.out,HV.out,HB.out];go_wp2;go_ret;exact⟨rfl,aliasBr.alloc Ad _⟩
 ·have h3:32+T<s.stack.length+V:=by omega
  clear h1;go_enter Tryz.func158,Tryz.ntmps158;go_wp2_with fail
  refine(Bq _ _).mono ?_;rintro e w1 ⟨rfl,rfl⟩;rw[HT.out,HV.out,HB.out];go_wp2;go_ret;exact⟨rfl,aliasBr.alloc Ad _⟩
theorem wrong0 (w:World) (mb:Nat) (s:St) (op a bh:Int) (As Af Au:Option Addr) (cs cf cu:Nat) (lmb:mb<w.heap.size) (c40:w.cell? ⟨mb,40,none⟩=some (.slice As s.stack.length cs)) (_c1:w.cell? ⟨mb,1,none⟩=some (.slice Af s.frames.length cf)) (_c0:w.cell? ⟨mb,0,none⟩=some (.slice Au s.funcs.length cu)) (_hsl:s.stack.length≤32) (_hfl:s.frames.length≤21) (_hul:s.funcs.length≤1000000) (ho:1≤op∧op≤39) (h11:¬ s.stack.length<takes op) (h12:¬ 32+takes op<s.stack.length+leaves op) (h2:¬ (op=35∨op=36)) (h3:¬ (op=37∨op=38)) :
  Calls Tryz.prog 158 #[.pointer (some ⟨mb,0,none⟩),.agg #[.int .i64 op,.int .i64 a],.int .i64 bh] w fun e w'=>e=.returned (.int .i64 0)∧Below w.heap.size w w':=by
 have lmb1:mb<w.heap.size+1:=by omega
 have ht:=Dn op;have hl:=Cz op;generalize hT:takes op=T at *;generalize hV:leaves op=V at *;have HT:=Aa hT;have HV:=Aa hV;clear hT hV;have HB:=Aa (show Ug op=true from decide_eq_true ho);have b1:(op==35)=false:=by simp;omega
 have b2:(op==36)=false:=by simp;omega
 have b3:(op==37)=false:=by simp;omega
 have b4:(op==38)=false:=by simp;omega
 clear ho h2 h3;go_enter Tryz.func158,Tryz.ntmps158;go_wp2_with fail
 refine(Bq _ _).mono ?_;rintro e w1 ⟨rfl,rfl⟩;rw[HT.out,HV.out,HB.out];go_wp2;go_ret;exact⟨rfl,aliasBr.alloc Ad _⟩
theorem wrongJ (w:World) (mb:Nat) (s:St) (op a bh:Int) (As Af Au:Option Addr) (cs cf cu:Nat) (lmb:mb<w.heap.size) (c40:w.cell? ⟨mb,40,none⟩=some (.slice As s.stack.length cs)) (_c1:w.cell? ⟨mb,1,none⟩=some (.slice Af s.frames.length cf)) (_c0:w.cell? ⟨mb,0,none⟩=some (.slice Au s.funcs.length cu)) (_hsl:s.stack.length≤32) (_hfl:s.frames.length≤21) (_hul:s.funcs.length≤1000000) (h2:op=35∨op=36) (h11:¬ s.stack.length<takes op) (h12:¬ 32+takes op<s.stack.length+leaves op) (h3:a<0∨bh<a) :
  Calls Tryz.prog 158 #[.pointer (some ⟨mb,0,none⟩),.agg #[.int .i64 op,.int .i64 a],.int .i64 bh] w fun e w'=>e=.returned (.int .i64 52)∧Below w.heap.size w w':=by
 have lmb1:mb<w.heap.size+1:=by omega
 have ht:=Dn op;have hl:=Cz op;generalize hT:takes op=T at *;generalize hV:leaves op=V at *;have HT:=Aa hT;have HV:=Aa hV;clear hT hV;have HB:Hid (Ug op=true):=Aa (by rcases h2 with rfl|rfl <;> rfl);rcases h2 with rfl|rfl
 all_goals
  by_cases h4:a<0
  ·clear h3;go_enter Tryz.func158,Tryz.ntmps158;go_wp2_with fail
   refine(Bq _ _).mono ?_;rintro e w1 ⟨rfl,rfl⟩;rw[HT.out,HV.out,HB.out];go_wp2;go_ret;exact⟨rfl,aliasBr.alloc Ad _⟩
  ·have h5:bh<a:=by omega
   clear h3;go_enter Tryz.func158,Tryz.ntmps158;go_wp2_with fail
   refine(Bq _ _).mono ?_;rintro e w1 ⟨rfl,rfl⟩;rw[HT.out,HV.out,HB.out];go_wp2;go_ret;exact⟨rfl,aliasBr.alloc Ad _⟩
theorem Zcg (w:World) (mb:Nat) (s:St) (op a bh:Int) (As Af Au:Option Addr) (cs cf cu:Nat) (lmb:mb<w.heap.size) (c40:w.cell? ⟨mb,40,none⟩=some (.slice As s.stack.length cs)) (_c1:w.cell? ⟨mb,1,none⟩=some (.slice Af s.frames.length cf)) (_c0:w.cell? ⟨mb,0,none⟩=some (.slice Au s.funcs.length cu)) (hsl:s.stack.length≤32) (_hfl:s.frames.length≤21) (_hul:s.funcs.length≤1000000) (h2:op=35∨op=36) (h11:¬ s.stack.length<takes op) (h12:¬ 32+takes op<s.stack.length+leaves op) (h4:0≤a) (h5:a≤bh) :
  Calls Tryz.prog 158 #[.pointer (some ⟨mb,0,none⟩),.agg #[.int .i64 op,.int .i64 a],.int .i64 bh] w fun e w'=>e=.returned (.int .i64 0)∧Below w.heap.size w w':=by
 have lmb1:mb<w.heap.size+1:=by omega
 have ht:=Dn op;have hl:=Cz op;generalize hT:takes op=T at *;generalize hV:leaves op=V at *;have HT:=Aa hT;have HV:=Aa hV;clear hT hV;have HB:Hid (Ug op=true):=Aa (by rcases h2 with rfl|rfl <;> rfl);rcases h2 with rfl|rfl
 all_goals
  go_enter Tryz.func158,Tryz.ntmps158;go_wp2_with fail
  refine(Bq _ _).mono ?_;rintro e w1 ⟨rfl,rfl⟩;rw[HT.out,HV.out,HB.out];go_wp2;go_ret;exact⟨rfl,aliasBr.alloc Ad _⟩
theorem Zcj (w:World) (mb:Nat) (s:St) (op a bh:Int) (As Af Au:Option Addr) (cs cf cu:Nat) (lmb:mb<w.heap.size) (c40:w.cell? ⟨mb,40,none⟩=some (.slice As s.stack.length cs)) (_c1:w.cell? ⟨mb,1,none⟩=some (.slice Af s.frames.length cf)) (_c0:w.cell? ⟨mb,0,none⟩=some (.slice Au s.funcs.length cu)) (hsl:s.stack.length≤32) (_hfl:s.frames.length≤21) (_hul:s.funcs.length≤1000000) (h3:op=37∨op=38) (h11:¬ s.stack.length<takes op) (h12:¬ 32+takes op<s.stack.length+leaves op) (h4:a<0) :
  Calls Tryz.prog 158 #[.pointer (some ⟨mb,0,none⟩),.agg #[.int .i64 op,.int .i64 a],.int .i64 bh] w fun e w'=>e=.returned (.int .i64 54)∧Below w.heap.size w w':=by
 have lmb1:mb<w.heap.size+1:=by omega
 have ht:=Dn op;have hl:=Cz op;generalize hT:takes op=T at *;generalize hV:leaves op=V at *;have HT:=Aa hT;have HV:=Aa hV;clear hT hV;have HB:Hid (Ug op=true):=Aa (by rcases h3 with rfl|rfl <;> rfl);rcases h3 with rfl|rfl
 ·go_enter Tryz.func158,Tryz.ntmps158;go_wp2_with fail
  refine(Bq _ _).mono ?_;rintro e w1 ⟨rfl,rfl⟩;rw[HT.out,HV.out,HB.out];go_wp2_with fail
  go_quiet (fail);go_wp2;go_ret;exact⟨rfl,below_drewN (aliasBr.alloc Ad _) _⟩
 ·go_enter Tryz.func158,Tryz.ntmps158;go_wp2_with fail
  refine(Bq _ _).mono ?_;rintro e w1 ⟨rfl,rfl⟩;rw[HT.out,HV.out,HB.out];go_wp2_with fail
  go_quiet (fail);go_wp2;go_ret;exact⟨rfl,below_drewN (aliasBr.alloc Ad _) _⟩
theorem Zci (w:World) (mb:Nat) (s:St) (op a bh:Int) (As Af Au:Option Addr) (cs cf cu:Nat) (lmb:mb<w.heap.size) (c40:w.cell? ⟨mb,40,none⟩=some (.slice As s.stack.length cs)) (_c1:w.cell? ⟨mb,1,none⟩=some (.slice Af s.frames.length cf)) (c0:w.cell? ⟨mb,0,none⟩=some (.slice Au s.funcs.length cu)) (hsl:s.stack.length≤32) (_hfl:s.frames.length≤21) (_hul:s.funcs.length≤1000000) (h3:op=37∨op=38) (h11:¬ s.stack.length<takes op) (h12:¬ 32+takes op<s.stack.length+leaves op) (h4:0≤a) (h5:(s.funcs.length:Int)≤a) :
  Calls Tryz.prog 158 #[.pointer (some ⟨mb,0,none⟩),.agg #[.int .i64 op,.int .i64 a],.int .i64 bh] w fun e w'=>e=.returned (.int .i64 54)∧Below w.heap.size w w':=by
 have lmb1:mb<w.heap.size+1:=by omega
 have ht:=Dn op;have hl:=Cz op;generalize hT:takes op=T at *;generalize hV:leaves op=V at *;have HT:=Aa hT;have HV:=Aa hV;clear hT hV;have HB:Hid (Ug op=true):=Aa (by rcases h3 with rfl|rfl <;> rfl);rcases h3 with rfl|rfl
 ·go_enter Tryz.func158,Tryz.ntmps158;go_wp2_with fail
  refine(Bq _ _).mono ?_;rintro e w1 ⟨rfl,rfl⟩;rw[HT.out,HV.out,HB.out];go_wp2_with fail
  go_quiet (fail);go_wp2;go_ret;exact⟨rfl,below_drewN (aliasBr.alloc Ad _) _⟩
 ·go_enter Tryz.func158,Tryz.ntmps158;go_wp2_with fail
  refine(Bq _ _).mono ?_;rintro e w1 ⟨rfl,rfl⟩;rw[HT.out,HV.out,HB.out];go_wp2_with fail
  go_quiet (fail);go_wp2;go_ret;exact⟨rfl,below_drewN (aliasBr.alloc Ad _) _⟩
theorem Zch (w:World) (mb:Nat) (s:St) (op a bh:Int) (As Af Au:Option Addr) (cs cf cu:Nat) (lmb:mb<w.heap.size) (c40:w.cell? ⟨mb,40,none⟩=some (.slice As s.stack.length cs)) (c1:w.cell? ⟨mb,1,none⟩=some (.slice Af s.frames.length cf)) (c0:w.cell? ⟨mb,0,none⟩=some (.slice Au s.funcs.length cu)) (hsl:s.stack.length≤32) (hfl:s.frames.length≤21) (_hul:s.funcs.length≤1000000) (h3:op=37∨op=38) (h11:¬ s.stack.length<takes op) (h12:¬ 32+takes op<s.stack.length+leaves op) (h4:0≤a) (h5:a<s.funcs.length) (h6:20<s.frames.length) :
  Calls Tryz.prog 158 #[.pointer (some ⟨mb,0,none⟩),.agg #[.int .i64 op,.int .i64 a],.int .i64 bh] w fun e w'=>e=.returned (.int .i64 54)∧Below w.heap.size w w':=by
 have lmb1:mb<w.heap.size+1:=by omega
 have ht:=Dn op;have hl:=Cz op;generalize hT:takes op=T at *;generalize hV:leaves op=V at *;have HT:=Aa hT;have HV:=Aa hV;clear hT hV;have HB:Hid (Ug op=true):=Aa (by rcases h3 with rfl|rfl <;> rfl);rcases h3 with rfl|rfl
 ·go_enter Tryz.func158,Tryz.ntmps158;go_wp2_with fail
  refine(Bq _ _).mono ?_;rintro e w1 ⟨rfl,rfl⟩;rw[HT.out,HV.out,HB.out];go_wp2_with fail
  go_quiet (fail);go_wp2;go_ret;exact⟨rfl,below_drewN (aliasBr.alloc Ad _) _⟩
 ·go_enter Tryz.func158,Tryz.ntmps158;go_wp2_with fail
  refine(Bq _ _).mono ?_;rintro e w1 ⟨rfl,rfl⟩;rw[HT.out,HV.out,HB.out];go_wp2_with fail
  go_quiet (fail);go_wp2;go_ret;exact⟨rfl,below_drewN (aliasBr.alloc Ad _) _⟩
theorem Zck (w:World) (mb:Nat) (s:St) (op a bh:Int) (As Af Au:Option Addr) (cs cf cu:Nat) (lmb:mb<w.heap.size) (c40:w.cell? ⟨mb,40,none⟩=some (.slice As s.stack.length cs)) (c1:w.cell? ⟨mb,1,none⟩=some (.slice Af s.frames.length cf)) (c0:w.cell? ⟨mb,0,none⟩=some (.slice Au s.funcs.length cu)) (hsl:s.stack.length≤32) (hfl:s.frames.length≤21) (_hul:s.funcs.length≤1000000) (h3:op=37∨op=38) (h11:¬ s.stack.length<takes op) (h12:¬ 32+takes op<s.stack.length+leaves op) (h4:0≤a) (h5:a<s.funcs.length) (h6:¬ 20<s.frames.length) :
  Calls Tryz.prog 158 #[.pointer (some ⟨mb,0,none⟩),.agg #[.int .i64 op,.int .i64 a],.int .i64 bh] w fun e w'=>e=.returned (.int .i64 0)∧Below w.heap.size w w':=by
 have lmb1:mb<w.heap.size+1:=by omega
 have ht:=Dn op;have hl:=Cz op;generalize hT:takes op=T at *;generalize hV:leaves op=V at *;have HT:=Aa hT;have HV:=Aa hV;clear hT hV;have HB:Hid (Ug op=true):=Aa (by rcases h3 with rfl|rfl <;> rfl);rcases h3 with rfl|rfl
 ·go_enter Tryz.func158,Tryz.ntmps158;go_wp2_with fail
  refine(Bq _ _).mono ?_;rintro e w1 ⟨rfl,rfl⟩;rw[HT.out,HV.out,HB.out];go_wp2_with fail
  go_quiet (fail);go_wp2;go_ret;exact⟨rfl,below_drewN (aliasBr.alloc Ad _) _⟩
 ·go_enter Tryz.func158,Tryz.ntmps158;go_wp2_with fail
  refine(Bq _ _).mono ?_;rintro e w1 ⟨rfl,rfl⟩;rw[HT.out,HV.out,HB.out];go_wp2_with fail
  go_quiet (fail);go_wp2;go_ret;exact⟨rfl,below_drewN (aliasBr.alloc Ad _) _⟩
theorem Uj (w:World) (mb:Nat) (O:Nat→Prop) (L:Lay) (s:St) (h:MaL w mb O L s) (op a bh:Int) :
  Calls Tryz.prog 158 #[.pointer (some ⟨mb,0,none⟩),.agg #[.int .i64 op,.int .i64 a],.int .i64 bh] w fun e w'=>e=.returned (.int .i64 (De s op a bh))∧Below w.heap.size w w':=by
 obtain⟨As,cs,hvs,_,_⟩:=h.sk.form;have c40:=h.blk.cell 40;rw[h.c.c40,hvs] at c40;obtain⟨Af,cf,hvf,_,_⟩:=h.fr.form;have c1:=h.blk.cell 1;rw[h.c.c1,hvf] at c1;obtain⟨Au,cu,hvu,_,_⟩:=h.fu.form;have c0:=h.blk.cell 0;rw[h.c.c0,hvu] at c0;have lmb:=h.blk.lt;have hsl:=h.ok.slen;have hfl:=h.ok.flen;have hul:=h.ok.fnl;by_cases ho:1≤op∧op≤39
 ·by_cases h1:s.stack.length<takes op∨32+takes op<s.stack.length+leaves op
  ·rw[Za ho h1];exact Zcl w mb s op a bh As Af Au cs cf cu lmb c40 c1 c0 hsl hfl hul ho h1
  ·have h11:¬ s.stack.length<takes op:=fun e=>h1 (.inl e)
   have h12:¬ 32+takes op<s.stack.length+leaves op:=fun e=>h1 (.inr e)
   by_cases h2:op=35∨op=36
   ·rw[Zd ho h1 h2];by_cases h3:a<0∨bh<a
    ·rw[if_pos h3];exact wrongJ w mb s op a bh As Af Au cs cf cu lmb c40 c1 c0 hsl hfl hul h2 h11 h12 h3
    ·rw[if_neg h3];exact Zcg w mb s op a bh As Af Au cs cf cu lmb c40 c1 c0 hsl hfl hul h2 h11 h12 (by omega) (by omega)
   ·by_cases h3:op=37∨op=38
    ·rw[Zf ho h1 h3];by_cases h4:a<0
     ·rw[if_pos (.inl h4)];exact Zcj w mb s op a bh As Af Au cs cf cu lmb c40 c1 c0 hsl hfl hul h3 h11 h12 h4
     ·by_cases h5:(s.funcs.length:Int)≤a
      ·rw[if_pos (.inr (.inl h5))];exact Zci w mb s op a bh As Af Au cs cf cu lmb c40 c1 c0 hsl hfl hul h3 h11 h12 (by omega) h5
      ·by_cases h6:20<s.frames.length
       ·rw[if_pos (.inr (.inr h6))];exact Zch w mb s op a bh As Af Au cs cf cu lmb c40 c1 c0 hsl hfl hul h3 h11 h12 (by omega) (by omega) h6
       ·rw[if_neg (by omega)];exact Zck w mb s op a bh As Af Au cs cf cu lmb c40 c1 c0 hsl hfl hul h3 h11 h12 (by omega) (by omega) h6
    ·rw[Zc ho h1 h2 h3];exact wrong0 w mb s op a bh As Af Au cs cf cu lmb c40 c1 c0 hsl hfl hul ho h11 h12 h2 h3
 ·rw[Zb ho];exact Zcm w mb s op a bh As Af Au cs cf cu lmb c40 c1 c0 hsl hfl hul ho
def Ho (fs:List Fm):Nat:=(fs.map (·.more+1)).sum
def Zbr (w:World) (mb:Nat) (O:Nat→Prop) (s:St) (e:Ending) (w':World):Prop :=
 (∃ x y,e=.returned (.tuple #[.agg #[.int .i64 x,.int .i64 y],.bool (next s).2.isSome])∧∀ i,(next s).2=some i→i=(x,y))∧(∃ L',MaL w' mb O L' (next s).1)∧Fr O w w'
def NInv (w:World) (mb:Nat) (O:Nat→Prop) (s:St) (k:Nat) (wr:World):Prop :=
 ∃ fs L',Ho fs<k∧MaL wr mb O L' { s with frames:=fs }∧Mc.settle fs=Mc.settle s.frames∧Blk wr w.heap.size 96 #[.int .i64 0,.int .i64 0]∧Fr O w wr
theorem next_ended {s:St} (h:s.ended=true):next s=(s,none):=by unfold next;rw[if_pos h]
theorem Zam {s:St} (h:s.ended=false) (h':Mc.settle s.frames=[]):next s=({ s with frames:=[],ended:=true },none):=by unfold next;rw[if_neg (by simp[h]),h']
theorem Wi {s:St} (h:s.ended=false) {f:Fm} {r:List Fm} (h':Mc.settle s.frames=f::r) {op a:Int} (hi:f.code[f.next]?=some (op,a)) :
  next s=({ s with frames:=f::r,err:=De { s with frames:=f::r } op a (f.code.length-1-f.next:Int),ended:=decide (De { s with frames:=f::r } op a (f.code.length-1-f.next:Int)≠0) },if De { s with frames:=f::r } op a (f.code.length-1-f.next:Int)=0 then some (op,a) else none):=by
 unfold next;rw[if_neg (by simp[h]),h'];simp only[Bs hi]
theorem Kt {f:Fm} {r:List Fm} (h:f.next<f.code.length):Mc.settle (f::r)=f::r:=by unfold Mc.settle;rw[if_pos h]
theorem Sp {f:Fm} {r:List Fm} (h:¬ f.next<f.code.length) (h':f.more=0):Mc.settle (f::r)=Mc.settle r:=by
 conv=>lhs;unfold Mc.settle
 rw[if_neg h,if_neg (by omega)]
theorem Ov {f:Fm} {r:List Fm} (h:¬ f.next<f.code.length) (h':0<f.more):Mc.settle ({ f with next:=0,more:=f.more-1 } :: r)=Mc.settle (f::r):=by
 by_cases hl:0<f.code.length
 ·rw[Kt (by simpa using hl)]
  conv=>rhs;unfold Mc.settle
  rw[if_neg h,if_pos ⟨h',hl⟩]
 ·have e1:Mc.settle ({ f with next:=0,more:=f.more-1 } :: r)=Mc.settle r:=by
   conv=>lhs;unfold Mc.settle
   rw[if_neg (by simpa using hl),if_neg (fun e=>hl e.2)]
  have e2:Mc.settle (f::r)=Mc.settle r:=by
   conv=>lhs;unfold Mc.settle
   rw[if_neg h,if_neg (by omega)]
  rw[e1,e2]
section
variable {w w' : World} {mb : Nat} {O : Nat → Prop} {L : Lay} {s : St} {f : Fm} {r : List Fm}
theorem MaL.drewN (h:MaL w mb O L s) (n:Nat):MaL (w.drewN n) mb O L s:=h.keep (fun _ _=>rfl) (fun _ h=>h) h.olt
theorem MaL.popFm (h:MaL w mb O L s) (hf:s.frames=f::r) {g c:Nat} {v:Value} {vs:List Value} (ht:Top w mb O L s f r g c v vs) :
  ∃ L',MaL (w.setCell ⟨mb,1,none⟩ (.slice (some ⟨g,0,none⟩) r.length c)) mb O L' { s with frames:=r } := by
 have hfr:=h.fr;rw[hf,ht.frs] at hfr;have hrow:=hfr.take (m:=r.length) (by simp) (A:=some ⟨g,0,none⟩) (c:=c) (by rw[ht.fr];simp);rw[Zbe v vs f r ht.vsl] at hrow;have hkk:∀ k,k≠mb→(w.setCell ⟨mb,1,none⟩ (.slice (some ⟨g,0,none⟩) r.length c)).heap[k]?=w.heap[k]?:=fun k hk=>Below.heap_setCell _ _ _ _ hk
 refine⟨_,h.frames_ (u:=.slice (some ⟨g,0,none⟩) r.length c) (vs:=vs) (fs:=r) ?_ (h.blk.set_ 1 _) (h.c.setFr _ _ _) (hrow.keep (fun k hk=>hkk k (fun e=>hrow.ne_blk h.blk (by decide) hk e)) (fun _ h=>h)) (fun k hk=>.inl (by rw[ht.fr];exact hk)) (fun k _ hk _=>hkk k hk) (fun _ h=>h) (fun k hk'=>by have:=h.olt k hk';simpa [World.setCell] using this) (h.ok.frames_ (fun x hx=>h.ok.frames x (by rw[hf];exact List.mem_cons_of_mem _ hx)) (by have:=h.ok.flen;rw[hf] at this;simp at this;omega))⟩;exact ht.codes.keep (fun k cs hO hb=>hkk k (hb.ne_ h.blk (by decide))) (fun _ h=>h)
end
theorem Rd (w:World) (mb:Nat) (O:Nat→Prop) (L:Lay) (s:St) (h:MaL w mb O L s) :
  Calls Tryz.prog 82 #[.pointer (some ⟨mb,0,none⟩)] w (Zbr w mb O s):=by
 by_cases hen:s.ended=true
 ·have c47:=h.blk.cell 47;rw[h.c.c47,hen] at c47;have f47:=h.blk.frozen 47;have lmb:=h.blk.lt;have lmb1:mb<w.heap.size+1:=by omega
  have hse:s = { s with ended:=true } := by cases s;simp only at hen;subst hen;rfl
  have hm:=h.set_ (h.c.setEnded true) (h.ok.cells_ h.ok.store h.ok.stl h.ok.look h.ok.move h.ok.mode h.ok.peak);rw[←hse] at hm;have HM:=Aa (hm.alloc (.cells #[.int .i64 0,.int .i64 0] 96));have HN:=Aa (next_ended hen);have HF:=Aa (((Fr.refl O w).setCell (p:=⟨mb,47,none⟩) (.inl h.mbO) (.bool true)).alloc (.cells #[.int .i64 0,.int .i64 0] 96));clear h hen hse hm;go_enter Tryz.func82,Tryz.ntmps82;go_wp2;refine wp_loop_rounds 1 ?_;rw[rounds_succ];go_wp2;refine bodyPost_ret (v:=.tuple #[.agg #[.int .i64 0,.int .i64 0],.bool false]) (by simp[results,Tryz.results82,go_sem]) rfl ?_;unfold Zbr;rw[HN.out];exact⟨⟨0,0,rfl,fun i hi=>by cases hi⟩,⟨_,HM.out⟩,HF.out⟩
 ·have hen':s.ended=false:=by simpa using hen
  have H0:Hid (NInv w mb O s (Ho s.frames+1) (w.alloc (.cells #[.int .i64 0,.int .i64 0] 96))):=Aa ⟨s.frames,L,by omega,h.alloc _,rfl,Blk.new _ _ _,(Fr.refl O w).alloc _⟩;have HE:=Aa hen';have HO:=Aa (h.notO (Nat.le_refl w.heap.size));clear h hen hen';go_enter Tryz.func82,Tryz.ntmps82;go_wp2;generalize w.alloc (.cells #[.int .i64 0,.int .i64 0] 96)=w0 at *;go_loopg [] (Ho s.frames+1) (fun k wr=>NInv w mb O s k wr)
  case atStart=>exact H0.out
  case round =>
   clear H0;obtain⟨fs,L',hk,hM,hse,hB,hF⟩:=hrel;have HM:=Aa hM;have HSE:=Aa hse;have HB:=Aa hB;have HF:=Aa hF;have c47:=hM.blk.cell 47;rw[hM.c.c47] at c47;dsimp only at c47;rw[HE.out] at c47;have f47:=hM.blk.frozen 47;have lmb:=hM.blk.lt;have b0:=hB.cell 0;have b1:=hB.cell 1;have bf0:=hB.frozen 0;have bf1:=hB.frozen 1;have bl:=hB.lt;simp only[List.getElem?_toArray,List.getElem?_cons_zero,List.getElem?_cons_succ] at b0 b1;have hmw:mb≠w.heap.size:=fun e=>hM.blk.ne_ hB (by decide) e
   have hfl:=hM.ok.flen;dsimp only at hfl;rcases fs with _|⟨f,r⟩
   ·obtain⟨A,c,hv,_,_⟩:=hM.fr.form;have c1:=hM.blk.cell 1;rw[hM.c.c1,hv] at c1;simp only[List.length_nil] at c1;clear hM hse hB hF hv;go_wp2;have hm:=HM.out.set_ (HM.out.c.setEnded true) (HM.out.ok.cells_ HM.out.ok.store HM.out.ok.stl HM.out.ok.look HM.out.ok.move HM.out.ok.mode HM.out.ok.peak);have hm2:=(hm.outer (p:=⟨w.heap.size,0,none⟩) HO.out (.int .i64 0)).outer (p:=⟨w.heap.size,1,none⟩) HO.out (.int .i64 0);have hf2:=((HF.out.setCell (p:=⟨mb,47,none⟩) (.inl HM.out.mbO) (.bool true)).setCell (p:=⟨w.heap.size,0,none⟩) (.inr Ad) (.int .i64 0)).setCell (p:=⟨w.heap.size,1,none⟩) (.inr Ad) (.int .i64 0);have HM2:=Aa hm2;have HF2:=Aa hf2;clear hm hm2 hf2;refine bodyPost_ret (v:=.tuple #[.agg #[.int .i64 0,.int .i64 0],.bool false]) (by simp[results,Tryz.results82,go_sem,b0,b1]) rfl ?_;unfold Zbr;rw[Zam HE.out (by rw[←HSE.out];rfl)];exact⟨⟨0,0,rfl,fun i hi=>by cases hi⟩,⟨_,HM2.out⟩,HF2.out⟩
   ·obtain⟨g,c,v,vs,ht⟩:=hM.top rfl;have HTp:=Aa ht;obtain⟨Ac,cc,hvc,_,_⟩:=ht.code.form;subst hvc;have c1:=hM.blk.cell 1;rw[hM.c.c1,ht.fr] at c1;have t0:=ht.c0;have t1:=ht.c1;have t2:=ht.c2;have tf1:=ht.fz (r.length*3+1);have tf2:=ht.fz (r.length*3+2);have tg:=ht.glt;have tgm:=ht.gmb;have tcap:=ht.cap;have hgw:g≠w.heap.size:=fun e=>HO.out (e ▸ ht.gO)
    have hokf:=hM.ok.frames f (by simp);obtain⟨hb1,hb2,hb3⟩:=hokf;have f1:=hM.blk.frozen 1;have f48:=hM.blk.frozen 48;obtain⟨u48,hu48⟩:∃ u,wr.cell? ⟨mb,48,none⟩=some u:=⟨_,by rw[hM.blk.cell];exact hM.c.c48⟩;have HCD:=Aa ht.code;by_cases hlt:f.next<f.code.length
    ·obtain⟨⟨op,a⟩,hins⟩:∃ x,f.code[f.next]?=some x:=⟨_,List.getElem?_eq_getElem hlt⟩;obtain⟨gc,cc',hvc,hcc1,_,hgcO,hgcl,hgcells,_⟩:=ht.code.at_ (by omega)
     injection hvc with hvc _ hcc
     subst hvc hcc;obtain⟨i0,i1⟩:=Dk hins;have q0:=hgcells _ _ i0;have q1:=hgcells _ _ i1;rw[Nat.mul_comm 2] at q0 q1;dsimp only at q0 q1;have HN:=Aa (Wi (s:=s) HE.out (f:=f) (r:=r) (hse.symm.trans (Kt hlt)) hins);have HM0:=HM;clear hM hse hB hF ht hgcells hins i0 i1 HCD;simp only[List.length_cons] at hfl;generalize hm:r.length=m at *;generalize hnx:f.next=nx at *;generalize hcl:f.code.length=cl at *;clear hm hnx hcl;obtain⟨k,hk1,hk2,hk⟩:∃ k,m<k∧k≤m+1∧m+1=k:=⟨m+1,by omega,by omega,rfl⟩;rw[hk] at c1 tcap;clear hk;have hw1:IntKind.i64.wrap ((k:Int)-1)=(m:Int):=by rw[IntWalk.i64_in _ (by omega)];omega
     go_wp2_with fail
     go_quiet (fail);go_wp2_with fail
     clear hw1;go_quiet (fail);go_wp2_with fail
     rename_i n1 K5 hK5;have HM1:=Aa ((HM.out.drewN n1).drewN nq);have HB1:=Aa ((HB.out.drewN n1).drewN nq);have HF1:=Aa ((HF.out.drewN n1).drewN nq)
     replace t0:((wr.drewN n1).drewN nq).cell? ⟨g,m*3,none⟩=_:=t0
     replace t1:((wr.drewN n1).drewN nq).cell? ⟨g,m*3+1,none⟩=_:=t1
     replace q0:((wr.drewN n1).drewN nq).cell? _=_:=q0
     replace q1:((wr.drewN n1).drewN nq).cell? _=_:=q1
     replace hgcl:gc<((wr.drewN n1).drewN nq).heap.size:=hgcl
     replace tg:g<((wr.drewN n1).drewN nq).heap.size:=tg
     replace bl:w.heap.size<((wr.drewN n1).drewN nq).heap.size:=bl
     replace lmb:mb<((wr.drewN n1).drewN nq).heap.size:=lmb
     clear HM HB HF HTp HM0 c1 f1 t2 tf1 tf2 c47 f47 b0 b1 bf0 bf1 f48 hu48;generalize (wr.drewN n1).drewN nq=W at *;go_region;go_wp2_with fail
     have HI2:=Aa ((Blk.new W 96 #[.int .i64 op,.int .i64 a]).drew);have i0:=Ab HI2.out 0 rfl;have i1:=Ab HI2.out 1 rfl;have HM2:=Aa ((HM1.out.alloc (.cells #[.int .i64 op,.int .i64 a] 96)).drew);have HB2:=Aa ((HB1.out.alloc (.cells #[.int .i64 op,.int .i64 a] 96)).drew);have HF2:=Aa ((HF1.out.alloc (.cells #[.int .i64 op,.int .i64 a] 96)).drew);have t0':(W.alloc (.cells #[.int .i64 op,.int .i64 a] 96)).drew.cell? ⟨g,m*3,none⟩=_:=(World.cell?_alloc_lt W _ _ tg).trans t0;have t1':(W.alloc (.cells #[.int .i64 op,.int .i64 a] 96)).drew.cell? ⟨g,m*3+1,none⟩=_:=(World.cell?_alloc_lt W _ _ tg).trans t1;have HNO:=Aa (HM1.out.notO (Nat.le_refl W.heap.size));have bl2:=Aa (show W.heap.size≠w.heap.size by omega);have tg2:g<(W.alloc (.cells #[.int .i64 op,.int .i64 a] 96)).drew.heap.size:=by simp;omega
     clear HM1 HB1 HF1 t0 t1 q0 q1 tg bl lmb hgcl;generalize (W.alloc (.cells #[.int .i64 op,.int .i64 a] 96)).drew=W2 at *;generalize W.heap.size=ib at *;clear W;have hw1:IntKind.i64.wrap ((cl:Int)-1)=((cl:Int)-1):=by rw[IntWalk.i64_in _ (by omega)]
     have hw2:IntKind.i64.wrap ((cl:Int)-1-nx)=((cl:Int)-1-nx):=by rw[IntWalk.i64_in _ (by omega)]
     have hibm:ib≠mb:=fun e=>HNO.out (e ▸ HM2.out.mbO)
     go_region_held3 (fun w'=>w'.cell? ⟨g,m*3,none⟩=some (.slice (some ⟨gc,0,none⟩) cl cc)∧w'.cell? ⟨g,m*3+1,none⟩=some (.int .i64 nx)∧w'.cell? ⟨ib,0,none⟩=some (.int .i64 op)∧w'.cell? ⟨ib,1,none⟩=some (.int .i64 a)) (first|(go_keep;done)|(refine⟨?_,?_,?_,?_⟩ <;> (refine(World.cell?_setCell_other _ _ _ _ (by intro e;injection e with e;first|exact tgm e|exact tgm e.symm|exact hibm e|exact hibm e.symm)).trans ?_;assumption)))
      (first|(go_at_call 158;refine(Uj W2.drew mb O L' _ HM2.out.drew op a _).mono ?_;rintro e w3 ⟨rfl,hbl⟩;have hfz:Fr O W2 w3:=(Fr.refl O W2).drew.trans (Fr.of_below hbl (fun k hk _=>hk));have HI3:=Aa (hfz.blk HI2.out HNO.out);have HM3:=Aa (HM2.out.keep (w':=w3) (fun k hk=>hbl.block k (HM2.out.olt k hk)) (fun _ h=>h) (fun k hk=>Nat.lt_of_lt_of_le (HM2.out.olt k hk) hbl.size));have HB3:=Aa (hfz.blk HB2.out HO.out);have HF3:=Aa (HF2.out.trans hfz);have t03:=(hbl.cell (p:=⟨g,m*3,none⟩) tg2).trans t0';have t13:=(hbl.cell (p:=⟨g,m*3+1,none⟩) tg2).trans t1';have i03:=HI3.out.cell 0;have i13:=HI3.out.cell 1;simp only[List.getElem?_toArray,List.getElem?_cons_zero,List.getElem?_cons_succ] at i03 i13;clear hfz hbl HI2 HM2 HB2 HF2 i0 i1 t0' t1' hw1 hw2;obtain⟨u48,c48⟩:∃ u,w3.cell? ⟨mb,48,none⟩=some u:=⟨_,by rw[HM3.out.blk.cell];exact HM3.out.c.c48⟩;have f48:=HM3.out.blk.frozen 48;have lmb:=HM3.out.blk.lt))
     rename_i hSS;clear hSS t03 t13 i03 i13;generalize hE:De { s with frames:=f::r } op a ((cl:Int)-1-nx)=er at *;clear hE;have h4:=HM3.out.set_ (HM3.out.c.setErr er) (HM3.out.ok.cells_ HM3.out.ok.store HM3.out.ok.stl HM3.out.ok.look HM3.out.ok.move HM3.out.ok.mode HM3.out.ok.peak);have h5:=h4.set_ (h4.c.setEnded (decide (er≠0))) (h4.ok.cells_ h4.ok.store h4.ok.stl h4.ok.look h4.ok.move h4.ok.mode h4.ok.peak);have HM5:=Aa h5;have HF5:=Aa ((HF3.out.setCell (p:=⟨mb,48,none⟩) (.inl HM3.out.mbO) (.int .i64 er)).setCell (p:=⟨mb,47,none⟩) (.inl HM3.out.mbO) (.bool (decide (er≠0))));have HI5:=Aa ((HI3.out.far (p:=⟨mb,48,none⟩) hibm (.int .i64 er)).far (p:=⟨mb,47,none⟩) hibm (.bool (decide (er≠0))));have HB5:=Aa ((HB3.out.far (p:=⟨mb,48,none⟩) hmw.symm (.int .i64 er)).far (p:=⟨mb,47,none⟩) hmw.symm (.bool (decide (er≠0))));have c47:∃ u,w3.cell? ⟨mb,47,none⟩=some u:=⟨_,by rw[HM3.out.blk.cell];exact HM3.out.c.c47⟩;obtain⟨u47,c47⟩:=c47;have f47:=HM3.out.blk.frozen 47;have lmb:=HM3.out.blk.lt;clear h4 h5 HM3 HF3 HI3 HB3;go_wp2_with fail
     have HNb:Hid ((next s).2.isSome = !(er !=0)∧(∀ i,(next s).2=some i→i=(op,a))∧(next s).1 = { s with frames:=f::r,ended:=decide (er≠0),err:=er }):=Aa (by
      rw[HN.out];by_cases h0:er=0
      ·refine⟨by simp[h0],fun i hi=>?_,rfl⟩;simp only[h0,if_true] at hi;exact(Option.some.inj hi).symm
      ·refine⟨by simp[h0],fun i hi=>?_,rfl⟩;simp only[h0,if_false] at hi;cases hi)
     clear HN;have hdb:decide (er≠0)=(er !=0):=by by_cases h0:er=0 <;> simp[h0]
     rw[hdb] at HM5 HF5 HI5 HB5 HNb;clear hdb c47 c48 f47 f48 lmb;generalize (er !=0)=b at *;have i0:=Ab HI5.out 0 rfl;have i1:=Ab HI5.out 1 rfl;have b0:=Ab HB5.out 0 rfl;have b1:=Ab HB5.out 1 rfl;have bf0:=HB5.out.frozen 0;have bf1:=HB5.out.frozen 1;have bl:=HB5.out.lt;have c47:=HM5.out.blk.cell 47;rw[HM5.out.c.c47] at c47;dsimp only at c47;generalize (w3.setCell ⟨mb,48,none⟩ (.int .i64 er)).setCell ⟨mb,47,none⟩ (.bool b)=W5 at *;have HM6:=Aa ((HM5.out.drew.outer (p:=⟨w.heap.size,0,none⟩) HO.out (.int .i64 op)).outer (p:=⟨w.heap.size,1,none⟩) HO.out (.int .i64 a));have HF6:=Aa ((HF5.out.drew.setCell (p:=⟨w.heap.size,0,none⟩) (.inr Ad) (.int .i64 op)).setCell (p:=⟨w.heap.size,1,none⟩) (.inr Ad) (.int .i64 a));clear HM5 HF5 HI5 HB5;go_region;go_wp2_with fail
     refine bodyPost_ret (v:=.tuple #[.agg #[.int .i64 op,.int .i64 a],.bool !b]) (by simp[results,Tryz.results82,go_sem,b0,b1]) rfl ?_;unfold Zbr;rw[HNb.out.1,HNb.out.2.2];exact⟨⟨op,a,rfl,HNb.out.2.1⟩,⟨_,HM6.out⟩,HF6.out⟩
    ·by_cases hmo:0<f.more
     ·obtain⟨mo,hmo1⟩:∃ n,f.more=n+1:=⟨f.more-1,by omega⟩;have hfm:Ho ({ f with next:=0,more:=mo } :: r)<Ho (f::r):=by simp[Ho,hmo1]
      have hsm:=Ov (r:=r) hlt hmo;rw[show f.more-1=mo by omega] at hsm;have hW:=fun n=>(((hM.drewN n).setFm (f:=f) (r:=r) rfl (ht.keep (fun _ _=>rfl) Ad) (f' := { f with more:=mo }) (n:=mo) (j:=r.length*3+2) (by omega) rfl (Zbf _ vs f r ht.vsl _) ⟨hb1,by simp only;omega⟩))
      have hW2:∀ n,∃ L2,MaL (((wr.drewN n).setCell ⟨g,r.length*3+2,none⟩ (.int .i64 mo)).setCell ⟨g,r.length*3+1,none⟩ (.int .i64 0)) mb O L2 { s with frames := { f with next:=0,more:=mo } :: r } := fun n=>by
       obtain⟨g',c',v',vs',ht'⟩:=(hW n).top rfl;have e1:g=g'∧c=c'∧.slice Ac f.code.length cc=v'∧vs=vs':=by
        have h1:=ht'.fr;have h2:=ht'.frs;rw[ht.fr] at h1;rw[ht.frs] at h2
        injection h1 with h1 _ h3
        injection h1 with h1
        injection h1 with h1
        injection h2 with h2 h4
        exact⟨h1,h3,h2,h4⟩
       obtain⟨rfl,rfl,rfl,rfl⟩:=e1;exact⟨_,(hW n).setFm (f := { f with more:=mo }) (r:=r) rfl ht' (f' := { f with next:=0,more:=mo }) (n:=0) (j:=r.length*3+1) (by omega) rfl (Ma _ _ _ r ht.vsl _) ⟨Nat.zero_le _,by simp only;omega⟩⟩
      have HI:Hid (∀ n,NInv w mb O s (Ho (f::r)) (((wr.drewN n).setCell ⟨g,r.length*3+2,none⟩ (.int .i64 mo)).setCell ⟨g,r.length*3+1,none⟩ (.int .i64 0))):=Aa (fun n=>by
       obtain⟨L2,hL2⟩:=hW2 n;exact⟨_,L2,hfm,hL2,hsm.trans hse,((hB.drewN n).far (p:=⟨g,r.length*3+2,none⟩) hgw.symm _).far (p:=⟨g,r.length*3+1,none⟩) hgw.symm _,((hF.drewN n).setCell (.inl ht.gO) _).setCell (.inl ht.gO) _⟩)
      rw[hmo1] at t2;have hmo15:mo≤15:=by omega
      clear hW hW2 hfm hM hse hB hF ht hsm hmo1 hmo;simp only[List.length_cons] at hfl;generalize hm:r.length=m at *;generalize hnx:f.next=nx at *;generalize hcl:f.code.length=cl at *;clear hm hnx hcl;obtain⟨k,hk1,hk2,hk⟩:∃ k,m<k∧k≤m+1∧m+1=k:=⟨m+1,by omega,by omega,rfl⟩;rw[hk] at c1 tcap;clear hk;have hw1:IntKind.i64.wrap ((k:Int)-1)=(m:Int):=by rw[IntWalk.i64_in _ (by omega)];omega
      go_wp2_with fail
      go_quiet (fail);go_wp2_with fail
      clear hw1;go_quiet (fail);go_wp2;go_roundg (Ho (f::r))
      case measure=>exact hk
      case rel=>exact HI.out _
     ·have hp:=fun n=>(hM.drewN n).popFm (f:=f) (r:=r) rfl (ht.keep (fun _ _=>rfl) Ad)
      have hfm:Ho r<Ho (f::r):=by simp[Ho]
      have HI:Hid (∀ n,NInv w mb O s (Ho (f::r)) ((wr.drewN n).setCell ⟨mb,1,none⟩ (.slice (some ⟨g,0,none⟩) r.length c))):=Aa (fun n=>by
       obtain⟨L2,hL2⟩:=hp n;exact⟨r,L2,hfm,hL2,(Sp hlt (by omega)).symm.trans hse,(hB.drewN n).far (p:=⟨mb,1,none⟩) hmw.symm _,(hF.drewN n).setCell (.inl hM.mbO) _⟩)
      have hmo0:f.more=0:=by omega
      rw[hmo0] at t2;clear hp hfm hM hse hB hF ht hmo hmo0;simp only[List.length_cons] at hfl;generalize hm:r.length=m at *;generalize hnx:f.next=nx at *;generalize hcl:f.code.length=cl at *;clear hm hnx hcl;obtain⟨k,hk1,hk2,hk⟩:∃ k,m<k∧k≤m+1∧m+1=k:=⟨m+1,by omega,by omega,rfl⟩;rw[hk] at c1 tcap;clear hk;have hw1:IntKind.i64.wrap ((k:Int)-1)=(m:Int):=by rw[IntWalk.i64_in _ (by omega)];omega
      go_wp2_with fail
      go_quiet (fail);go_wp2_with fail
      clear hw1;go_quiet (fail);have hw1:IntKind.i64.wrap ((k:Int)-1)=(m:Int):=by rw[IntWalk.i64_in _ (by omega)];omega
      go_wp2_with fail
      rename_i n1;have HI2:=Aa (HI.out (n1+nq+1));have c1w:(wr.drewN (n1+nq)).cell? ⟨mb,1,none⟩=some (.slice (some ⟨g,0,none⟩) k c):=c1;have f1w:(wr.drewN (n1+nq)).frozen? ⟨mb,1,none⟩=false:=f1;have hrw:(wr.drewN (n1+nq)).drew=wr.drewN (n1+nq+1):=rfl;rw[←hrw] at HI2;clear hrw HI c1 f1 t0 t1 t2 b0 b1 c47 f47 bf0 bf1 tf1 tf2 f48 hu48;generalize wr.drewN (n1+nq)=W at *;have hmc:m≤c:=by omega
      have hmc2:(m:Int)≤(c:Int):=by omega
      go_still_tail 14,(by kernel_rfl);change wpList _ _ _ _ _ W.drew;go_wp2;go_roundg (Ho (f::r))
      case measure=>exact hk
      case rel=>exact HI2.out
end Go.Proofs.YtnhebmgibiomnaaGreat
