/- Parts of the proof, joined: McA ZClone. -/
import Derived.Test.YtnhebmgibiomnaaGreatPb4
set_option linter.unusedVariables false
set_option linter.unusedSimpArgs false
set_option maxRecDepth 100000
set_option maxHeartbeats 8000000
namespace Go.Proofs.YtnhebmgibiomnaaGreat
open Go.RowKit
theorem Ga (n:Int) (w:World):Calls Tryz.prog 98 #[.int .i64 n] w fun e w'=>e=.returned (.int .i64 (Mc.k32 n))∧w=w':=by
 go_enter Tryz.func98,Tryz.ntmps98;go_wp2;go_ret;exact⟨Bi (Lv n),rfl⟩
theorem Ct (n:Int) (w:World):Calls Tryz.prog 176 #[.int .i64 n] w fun e w'=>e=.returned (.int .i64 (Mc.k32 n))∧w=w':=by
 go_enter Tryz.func176,Tryz.ntmps176;go_wp2;go_ret;exact⟨Bi (Lv n),rfl⟩
theorem Na (n d:Int) (w:World) (hd:0<d) (hd2:d≤1000):Calls Tryz.prog 195 #[.int .i64 n,.int .i64 d] w fun e w'=>e=.returned (.int .i64 (n % d))∧w=w':=by
 have hm:=Aa (Mm n d hd);have h2:=Int.emod_nonneg n (show d≠0 by omega);have h3:=Int.emod_lt_of_pos n hd;go_enter Tryz.func195,Tryz.ntmps195;go_wp2
 all_goals go_ret
 ·have hm:=hm.out;rw[if_pos ‹_›] at hm;exact⟨Bi (by rw[hm];exact IntWalk.wrap64_in _ (by omega)),rfl⟩
 ·have hm:=hm.out;rw[if_neg (by omega)] at hm;exact⟨Bi hm.symm,rfl⟩
theorem Gm (a b:Int) (w:World):Calls Tryz.prog 178 #[.int .i64 a,.int .i64 b] w fun e w'=>e=.returned (.int .i64 (Mc.w64 (Mc.divd a b)))∧w=w':=by
 by_cases hb:b=0
 ·subst hb;go_enter Tryz.func178,Tryz.ntmps178;go_wp2;go_ret;exact⟨Bi rfl,rfl⟩
 ·have hdv:Mc.divd a b=a.fdiv b:=by unfold Mc.divd;rw[if_neg hb]
  have HF:=Aa (Nr a b hb);have HD:=Aa hdv;have h1:(b==0)=false:=beq_eq_false_iff_ne.2 hb;clear hdv;by_cases hc:a.tmod b≠0∧(decide (a<0)≠decide (b<0))
  ·have e1:(a.tmod b !=0)=true:=bne_iff_ne.2 hc.1;have e2:(decide (a<0)==decide (b<0))=false:=beq_eq_false_iff_ne.2 hc.2;have HC:=Aa hc;obtain⟨hc1,_⟩:=hc;go_enter Tryz.func178,Tryz.ntmps178;go_wp2;go_ret;refine⟨Bi ?_,rfl⟩;rw[HD.out,HF.out,if_pos HC.out];exact Um _
  ·have HC:=Aa hc;clear hc;by_cases hz:a.tmod b=0
   ·have e1:(a.tmod b !=0)=false:=by simp[hz]
    go_enter Tryz.func178,Tryz.ntmps178;go_wp2;go_ret;refine⟨Bi ?_,rfl⟩;rw[HD.out,HF.out,if_neg HC.out];exact Ed _
   ·have e1:(a.tmod b !=0)=true:=bne_iff_ne.2 hz;have e2:(decide (a<0)==decide (b<0))=true:=by
     rcases hd:(decide (a<0)==decide (b<0)) with _|_
     ·exact absurd ⟨hz,beq_eq_false_iff_ne.1 hd⟩ HC.out
     ·rfl
    go_enter Tryz.func178,Tryz.ntmps178;go_wp2;go_ret;refine⟨Bi ?_,rfl⟩;rw[HD.out,HF.out,if_neg HC.out];exact Ed _
theorem En (b:Bool) (w:World):Calls Tryz.prog 188 #[.bool b] w fun e w'=>e=.returned (.int .i64 (Mc.truth b))∧w=w':=by
 cases b
 all_goals
  go_enter Tryz.func188,Tryz.ntmps188;go_wp2;go_ret;exact⟨rfl,rfl⟩
theorem Iu (a:Int) (w:World) (h0:0≤a) (h1:a≤1):Calls Tryz.prog 255 #[.int .i64 a] w fun e w'=>e=.returned (.int .i64 (a+1))∧w=w':=by
 have h:a=0∨a=1:=by omega
 rcases h with rfl|rfl
 all_goals
  clear h0 h1;go_enter Tryz.func255,Tryz.ntmps255;go_wp2;go_ret;exact⟨rfl,rfl⟩
theorem Bn (b off:Nat) (a:Int) (w:World):Calls Tryz.prog 253 #[.pointer (some ⟨b,off,none⟩),.int .i64 a] w fun e w'=>e=.returned (.pointer (some ⟨b,off+(if a=1 then 1 else 0),none⟩))∧w=w':=by
 by_cases h:a=1
 ·go_enter Tryz.func253,Tryz.ntmps253;go_wp2;go_ret;exact⟨rfl,rfl⟩
 ·go_enter Tryz.func253,Tryz.ntmps253;go_wp2;go_ret;exact⟨rfl,rfl⟩
end Go.Proofs.YtnhebmgibiomnaaGreat
namespace Go.Proofs.YtnhebmgibiomnaaGreat
open Go.RowKit
open Mc
def Codes (w:World) (O:Nat→Prop):List Value→List (List (Int×Int))→Prop
 | [],[]=>True
 | v::vs,c::cs=>Row w O 96 2 v c.length (pts c)∧Codes w O vs cs
 | _,_=>False
theorem Codes.len {w:World} {O:Nat→Prop}:∀ {vs:List Value} {cs:List (List (Int×Int))},Codes w O vs cs→vs.length=cs.length
 | [],[],_=>rfl
 | _::_,_::_,h=>by simp[Codes.len h.2]
 | [],_::_,h=>h.elim
 | _::_,[],h=>h.elim
theorem Codes.get {w:World} {O:Nat→Prop}:∀ {vs:List Value} {cs:List (List (Int×Int))},Codes w O vs cs→∀ {i:Nat} {c:List (Int×Int)},cs[i]?=some c→∃ v,vs[i]?=some v∧Row w O 96 2 v c.length (pts c)
 | v::_,c::_,h,0,c',hc=>by
  simp only[List.getElem?_cons_zero,Option.some.injEq] at hc;subst hc;exact⟨v,rfl,h.1⟩
 | _::_,_::_,h,i+1,c',hc=>by
  simp only[List.getElem?_cons_succ] at hc ⊢;exact Codes.get h.2 hc
 | [],[],_,_,_,hc=>by simp at hc
 | [],_::_,h,_,_,_=>h.elim
 | _::_,[],h,_,_,_=>h.elim
theorem Codes.keep {w w':World} {O O':Nat→Prop} (hk:∀ g cs,O g→Blk w g 96 cs→w'.heap[g]?=w.heap[g]?) (hO:∀ k,O k→O' k):∀ {vs:List Value} {cs:List (List (Int×Int))},Codes w O vs cs→Codes w' O' vs cs
 | [],[],_=>trivial
 | _::_,_::_,h=>⟨h.1.keep (fun g hg=>by obtain⟨h1,_,cs,h2⟩:=h.1.block hg;exact hk g cs h1 h2) hO,Codes.keep hk hO h.2⟩
 | [],_::_,h=>h.elim
 | _::_,[],h=>h.elim
def frC:List Value→List Fm→List Value
 | v::vs,f::fs=>frC vs fs++[v,.int .i64 f.next,.int .i64 f.more]
 | _,_=>[]
theorem Hn:∀ (vs:List Value) (fs:List Fm),vs.length=fs.length→(frC vs fs).length=fs.length*3
 | [],[],_=>rfl
 | _::vs,_::fs,h=>by simp only[frC,List.length_append,Hn vs fs (by simpa using h),List.length_cons,List.length_nil];omega
 | [],_::_,h=>by simp at h
 | _::_,[],h=>by simp at h
def Jw:Nat→Fn×Option (TypeId×Fn)
 | 1=>(.func 166,none)
 | 2=>(.func 168,none)
 | 3=>(.func 170,none)
 | 4=>(.func 171,none)
 | 5=>(.func 250,some (74,.func 173))
 | 6=>(.func 250,some (74,.func 174))
 | 7=>(.func 250,some (74,.func 175))
 | 8=>(.func 250,some (74,.func 177))
 | 9=>(.func 251,some (117,.func 180))
 | 10=>(.func 251,some (117,.func 181))
 | 11=>(.func 250,some (74,.func 182))
 | 12=>(.func 250,some (74,.func 183))
 | 13=>(.func 251,some (117,.func 184))
 | 14=>(.func 251,some (117,.func 185))
 | 15=>(.func 186,none)
 | 16=>(.func 250,some (74,.func 187))
 | 17=>(.func 250,some (74,.func 189))
 | 18=>(.func 250,some (74,.func 190))
 | 19=>(.func 251,some (117,.func 191))
 | 20=>(.func 250,some (74,.func 192))
 | 21=>(.func 250,some (74,.func 193))
 | 22=>(.func 194,none)
 | 23=>(.func 196,none)
 | 24=>(.func 197,none)
 | 25=>(.func 198,none)
 | 26=>(.func 200,none)
 | 27=>(.func 202,none)
 | 28=>(.func 203,none)
 | 29=>(.func 204,none)
 | 30=>(.func 206,none)
 | 31=>(.func 207,none)
 | 32=>(.func 209,none)
 | 33=>(.func 211,none)
 | 34=>(.func 213,none)
 | 35=>(.func 215,none)
 | 36=>(.func 217,none)
 | 37=>(.func 219,none)
 | 38=>(.func 221,none)
 | _=>(.func 223,none)
def Kk (bs:Nat→Nat) (i:Nat):Value:=.func (Jw i).1 #[] (match (Jw i).2 with|some _=>#[.pointer (some ⟨bs i,0,none⟩)]|none=>#[])
def Eg (bs:Nat→Nat) (n:Nat):List MapEntry:=(List.range n).map fun i=>⟨.int .i64 ((i+1:Nat):Int),Kk bs (i+1),i⟩
def DeedBox (w:World) (O:Nat→Prop) (bs:Nat→Nat) (i:Nat):Prop:=match (Jw i).2 with|some (t,f)=>O (bs i)∧Blk w (bs i) t #[.func f #[] #[]]|none=>True
def Deeds (w:World) (O:Nat→Prop) (db:Nat):Prop:=O db∧∃ bs clock,w.heap[db]?=some (.map (Eg bs 39).toArray clock)∧∀ i,1≤i→i≤39→DeedBox w O bs i
theorem Deeds.keep {w w':World} {O O':Nat→Prop} {db:Nat} (h:Deeds w O db) (hm:w'.heap[db]?=w.heap[db]?) (hk:∀ g t cs,O g→(t=74∨t=117)→Blk w g t cs→w'.heap[g]?=w.heap[g]?) (hO:∀ k,O k→O' k):Deeds w' O' db:=by
 obtain⟨h0,bs,clock,h1,h2⟩:=h;refine⟨hO _ h0,bs,clock,hm.trans h1,fun i hi1 hi2=>?_⟩;have:=h2 i hi1 hi2;unfold DeedBox at this ⊢;split at this
 ·rename_i t f e;refine⟨hO _ this.1,(hk _ t _ this.1 ?_ this.2).trans this.2⟩;unfold Jw at e;split at e <;> first|(cases e;done)|(cases e;first|exact .inl rfl|exact .inr rfl)
 ·trivial
end Go.Proofs.YtnhebmgibiomnaaGreat
namespace Go.Proofs.YtnhebmgibiomnaaGreat
open Go.RowKit Mc
structure Lay where
 cs:Array Value
 fu:Value
 fus:List Value
 fr:Value
 frs:List Value
 og:Value
 cu:Value
 to:Value
 en:Value
 co:Value
 cv:Value
 sk:Value
 db:Nat
structure MaC (L:Lay) (s:St):Prop where
 sz:L.cs.size=50
 stl:s.store.length=32
 st:∀ (i:Nat) x,s.store[i]?=some x→L.cs[8+i]?=some (.int .i64 x)
 c0:L.cs[0]?=some L.fu
 c1:L.cs[1]?=some L.fr
 c2:L.cs[2]?=some L.og
 c3:L.cs[3]?=some L.cu
 c4:L.cs[4]?=some L.to
 c5:L.cs[5]?=some L.en
 c6:L.cs[6]?=some L.co
 c7:L.cs[7]?=some L.cv
 c40:L.cs[40]?=some L.sk
 c41:L.cs[41]?=some (.int .i64 s.size)
 c42:L.cs[42]?=some (.int .i64 s.look)
 c43:L.cs[43]?=some (.int .i64 s.move)
 c44:L.cs[44]?=some (.int .i64 s.mode)
 c45:L.cs[45]?=some (.int .i64 s.steps)
 c46:L.cs[46]?=some (.int .i64 s.peak)
 c47:L.cs[47]?=some (.bool s.ended)
 c48:L.cs[48]?=some (.int .i64 s.err)
 c49:L.cs[49]?=some (.map (some L.db))
theorem MaC.setFr {L:Lay} {s:St} (h:MaC L s) (u:Value) (vs:List Value) (fs:List Fm):MaC { L with cs:=L.cs.setIfInBounds 1 u,fr:=u,frs:=vs } { s with frames:=fs } := by
 have hz:=h.sz;have hl:=h.stl;refine⟨by simp only[Array.size_setIfInBounds];exact h.sz,h.stl,fun j x hx=>?_,?_,?_,?_,?_,?_,?_,?_,?_,?_,?_,?_,?_,?_,?_,?_,?_,?_,?_⟩
 ·have:j<s.store.length:=(List.getElem?_eq_some_iff.1 hx).1;rw[Array.getElem?_setIfInBounds_ne (by omega)];exact h.st j x hx
 ·rw[Array.getElem?_setIfInBounds_ne (by decide)];exact h.c0
 ·rw[Array.getElem?_setIfInBounds_self_of_lt (by omega)]
 ·rw[Array.getElem?_setIfInBounds_ne (by decide)];exact h.c2
 ·rw[Array.getElem?_setIfInBounds_ne (by decide)];exact h.c3
 ·rw[Array.getElem?_setIfInBounds_ne (by decide)];exact h.c4
 ·rw[Array.getElem?_setIfInBounds_ne (by decide)];exact h.c5
 ·rw[Array.getElem?_setIfInBounds_ne (by decide)];exact h.c6
 ·rw[Array.getElem?_setIfInBounds_ne (by decide)];exact h.c7
 ·rw[Array.getElem?_setIfInBounds_ne (by decide)];exact h.c40
 ·rw[Array.getElem?_setIfInBounds_ne (by decide)];exact h.c41
 ·rw[Array.getElem?_setIfInBounds_ne (by decide)];exact h.c42
 ·rw[Array.getElem?_setIfInBounds_ne (by decide)];exact h.c43
 ·rw[Array.getElem?_setIfInBounds_ne (by decide)];exact h.c44
 ·rw[Array.getElem?_setIfInBounds_ne (by decide)];exact h.c45
 ·rw[Array.getElem?_setIfInBounds_ne (by decide)];exact h.c46
 ·rw[Array.getElem?_setIfInBounds_ne (by decide)];exact h.c47
 ·rw[Array.getElem?_setIfInBounds_ne (by decide)];exact h.c48
 ·rw[Array.getElem?_setIfInBounds_ne (by decide)];exact h.c49
theorem MaC.setSk {L:Lay} {s:St} (h:MaC L s) (u:Value) (l:List Int):MaC { L with cs:=L.cs.setIfInBounds 40 u,sk:=u } { s with stack:=l } := by
 have hz:=h.sz;have hl:=h.stl;refine⟨by simp only[Array.size_setIfInBounds];exact h.sz,h.stl,fun j x hx=>?_,?_,?_,?_,?_,?_,?_,?_,?_,?_,?_,?_,?_,?_,?_,?_,?_,?_,?_⟩
 ·have:j<s.store.length:=(List.getElem?_eq_some_iff.1 hx).1;rw[Array.getElem?_setIfInBounds_ne (by omega)];exact h.st j x hx
 ·rw[Array.getElem?_setIfInBounds_ne (by decide)];exact h.c0
 ·rw[Array.getElem?_setIfInBounds_ne (by decide)];exact h.c1
 ·rw[Array.getElem?_setIfInBounds_ne (by decide)];exact h.c2
 ·rw[Array.getElem?_setIfInBounds_ne (by decide)];exact h.c3
 ·rw[Array.getElem?_setIfInBounds_ne (by decide)];exact h.c4
 ·rw[Array.getElem?_setIfInBounds_ne (by decide)];exact h.c5
 ·rw[Array.getElem?_setIfInBounds_ne (by decide)];exact h.c6
 ·rw[Array.getElem?_setIfInBounds_ne (by decide)];exact h.c7
 ·rw[Array.getElem?_setIfInBounds_self_of_lt (by omega)]
 ·rw[Array.getElem?_setIfInBounds_ne (by decide)];exact h.c41
 ·rw[Array.getElem?_setIfInBounds_ne (by decide)];exact h.c42
 ·rw[Array.getElem?_setIfInBounds_ne (by decide)];exact h.c43
 ·rw[Array.getElem?_setIfInBounds_ne (by decide)];exact h.c44
 ·rw[Array.getElem?_setIfInBounds_ne (by decide)];exact h.c45
 ·rw[Array.getElem?_setIfInBounds_ne (by decide)];exact h.c46
 ·rw[Array.getElem?_setIfInBounds_ne (by decide)];exact h.c47
 ·rw[Array.getElem?_setIfInBounds_ne (by decide)];exact h.c48
 ·rw[Array.getElem?_setIfInBounds_ne (by decide)];exact h.c49
theorem MaC.setLook {L:Lay} {s:St} (h:MaC L s) (n:Int):MaC { L with cs:=L.cs.setIfInBounds 42 (.int .i64 n) } { s with look:=n } := by
 have hz:=h.sz;have hl:=h.stl;refine⟨by simp only[Array.size_setIfInBounds];exact h.sz,h.stl,fun j x hx=>?_,?_,?_,?_,?_,?_,?_,?_,?_,?_,?_,?_,?_,?_,?_,?_,?_,?_,?_⟩
 ·have:j<s.store.length:=(List.getElem?_eq_some_iff.1 hx).1;rw[Array.getElem?_setIfInBounds_ne (by omega)];exact h.st j x hx
 ·rw[Array.getElem?_setIfInBounds_ne (by decide)];exact h.c0
 ·rw[Array.getElem?_setIfInBounds_ne (by decide)];exact h.c1
 ·rw[Array.getElem?_setIfInBounds_ne (by decide)];exact h.c2
 ·rw[Array.getElem?_setIfInBounds_ne (by decide)];exact h.c3
 ·rw[Array.getElem?_setIfInBounds_ne (by decide)];exact h.c4
 ·rw[Array.getElem?_setIfInBounds_ne (by decide)];exact h.c5
 ·rw[Array.getElem?_setIfInBounds_ne (by decide)];exact h.c6
 ·rw[Array.getElem?_setIfInBounds_ne (by decide)];exact h.c7
 ·rw[Array.getElem?_setIfInBounds_ne (by decide)];exact h.c40
 ·rw[Array.getElem?_setIfInBounds_ne (by decide)];exact h.c41
 ·rw[Array.getElem?_setIfInBounds_self_of_lt (by omega)]
 ·rw[Array.getElem?_setIfInBounds_ne (by decide)];exact h.c43
 ·rw[Array.getElem?_setIfInBounds_ne (by decide)];exact h.c44
 ·rw[Array.getElem?_setIfInBounds_ne (by decide)];exact h.c45
 ·rw[Array.getElem?_setIfInBounds_ne (by decide)];exact h.c46
 ·rw[Array.getElem?_setIfInBounds_ne (by decide)];exact h.c47
 ·rw[Array.getElem?_setIfInBounds_ne (by decide)];exact h.c48
 ·rw[Array.getElem?_setIfInBounds_ne (by decide)];exact h.c49
theorem MaC.setMove {L:Lay} {s:St} (h:MaC L s) (n:Int):MaC { L with cs:=L.cs.setIfInBounds 43 (.int .i64 n) } { s with move:=n } := by
 have hz:=h.sz;have hl:=h.stl;refine⟨by simp only[Array.size_setIfInBounds];exact h.sz,h.stl,fun j x hx=>?_,?_,?_,?_,?_,?_,?_,?_,?_,?_,?_,?_,?_,?_,?_,?_,?_,?_,?_⟩
 ·have:j<s.store.length:=(List.getElem?_eq_some_iff.1 hx).1;rw[Array.getElem?_setIfInBounds_ne (by omega)];exact h.st j x hx
 ·rw[Array.getElem?_setIfInBounds_ne (by decide)];exact h.c0
 ·rw[Array.getElem?_setIfInBounds_ne (by decide)];exact h.c1
 ·rw[Array.getElem?_setIfInBounds_ne (by decide)];exact h.c2
 ·rw[Array.getElem?_setIfInBounds_ne (by decide)];exact h.c3
 ·rw[Array.getElem?_setIfInBounds_ne (by decide)];exact h.c4
 ·rw[Array.getElem?_setIfInBounds_ne (by decide)];exact h.c5
 ·rw[Array.getElem?_setIfInBounds_ne (by decide)];exact h.c6
 ·rw[Array.getElem?_setIfInBounds_ne (by decide)];exact h.c7
 ·rw[Array.getElem?_setIfInBounds_ne (by decide)];exact h.c40
 ·rw[Array.getElem?_setIfInBounds_ne (by decide)];exact h.c41
 ·rw[Array.getElem?_setIfInBounds_ne (by decide)];exact h.c42
 ·rw[Array.getElem?_setIfInBounds_self_of_lt (by omega)]
 ·rw[Array.getElem?_setIfInBounds_ne (by decide)];exact h.c44
 ·rw[Array.getElem?_setIfInBounds_ne (by decide)];exact h.c45
 ·rw[Array.getElem?_setIfInBounds_ne (by decide)];exact h.c46
 ·rw[Array.getElem?_setIfInBounds_ne (by decide)];exact h.c47
 ·rw[Array.getElem?_setIfInBounds_ne (by decide)];exact h.c48
 ·rw[Array.getElem?_setIfInBounds_ne (by decide)];exact h.c49
theorem MaC.setMode {L:Lay} {s:St} (h:MaC L s) (n:Int):MaC { L with cs:=L.cs.setIfInBounds 44 (.int .i64 n) } { s with mode:=n } := by
 have hz:=h.sz;have hl:=h.stl;refine⟨by simp only[Array.size_setIfInBounds];exact h.sz,h.stl,fun j x hx=>?_,?_,?_,?_,?_,?_,?_,?_,?_,?_,?_,?_,?_,?_,?_,?_,?_,?_,?_⟩
 ·have:j<s.store.length:=(List.getElem?_eq_some_iff.1 hx).1;rw[Array.getElem?_setIfInBounds_ne (by omega)];exact h.st j x hx
 ·rw[Array.getElem?_setIfInBounds_ne (by decide)];exact h.c0
 ·rw[Array.getElem?_setIfInBounds_ne (by decide)];exact h.c1
 ·rw[Array.getElem?_setIfInBounds_ne (by decide)];exact h.c2
 ·rw[Array.getElem?_setIfInBounds_ne (by decide)];exact h.c3
 ·rw[Array.getElem?_setIfInBounds_ne (by decide)];exact h.c4
 ·rw[Array.getElem?_setIfInBounds_ne (by decide)];exact h.c5
 ·rw[Array.getElem?_setIfInBounds_ne (by decide)];exact h.c6
 ·rw[Array.getElem?_setIfInBounds_ne (by decide)];exact h.c7
 ·rw[Array.getElem?_setIfInBounds_ne (by decide)];exact h.c40
 ·rw[Array.getElem?_setIfInBounds_ne (by decide)];exact h.c41
 ·rw[Array.getElem?_setIfInBounds_ne (by decide)];exact h.c42
 ·rw[Array.getElem?_setIfInBounds_ne (by decide)];exact h.c43
 ·rw[Array.getElem?_setIfInBounds_self_of_lt (by omega)]
 ·rw[Array.getElem?_setIfInBounds_ne (by decide)];exact h.c45
 ·rw[Array.getElem?_setIfInBounds_ne (by decide)];exact h.c46
 ·rw[Array.getElem?_setIfInBounds_ne (by decide)];exact h.c47
 ·rw[Array.getElem?_setIfInBounds_ne (by decide)];exact h.c48
 ·rw[Array.getElem?_setIfInBounds_ne (by decide)];exact h.c49
theorem MaC.setSteps {L:Lay} {s:St} (h:MaC L s) (n:Nat):MaC { L with cs:=L.cs.setIfInBounds 45 (.int .i64 n) } { s with steps:=n } := by
 have hz:=h.sz;have hl:=h.stl;refine⟨by simp only[Array.size_setIfInBounds];exact h.sz,h.stl,fun j x hx=>?_,?_,?_,?_,?_,?_,?_,?_,?_,?_,?_,?_,?_,?_,?_,?_,?_,?_,?_⟩
 ·have:j<s.store.length:=(List.getElem?_eq_some_iff.1 hx).1;rw[Array.getElem?_setIfInBounds_ne (by omega)];exact h.st j x hx
 ·rw[Array.getElem?_setIfInBounds_ne (by decide)];exact h.c0
 ·rw[Array.getElem?_setIfInBounds_ne (by decide)];exact h.c1
 ·rw[Array.getElem?_setIfInBounds_ne (by decide)];exact h.c2
 ·rw[Array.getElem?_setIfInBounds_ne (by decide)];exact h.c3
 ·rw[Array.getElem?_setIfInBounds_ne (by decide)];exact h.c4
 ·rw[Array.getElem?_setIfInBounds_ne (by decide)];exact h.c5
 ·rw[Array.getElem?_setIfInBounds_ne (by decide)];exact h.c6
 ·rw[Array.getElem?_setIfInBounds_ne (by decide)];exact h.c7
 ·rw[Array.getElem?_setIfInBounds_ne (by decide)];exact h.c40
 ·rw[Array.getElem?_setIfInBounds_ne (by decide)];exact h.c41
 ·rw[Array.getElem?_setIfInBounds_ne (by decide)];exact h.c42
 ·rw[Array.getElem?_setIfInBounds_ne (by decide)];exact h.c43
 ·rw[Array.getElem?_setIfInBounds_ne (by decide)];exact h.c44
 ·rw[Array.getElem?_setIfInBounds_self_of_lt (by omega)]
 ·rw[Array.getElem?_setIfInBounds_ne (by decide)];exact h.c46
 ·rw[Array.getElem?_setIfInBounds_ne (by decide)];exact h.c47
 ·rw[Array.getElem?_setIfInBounds_ne (by decide)];exact h.c48
 ·rw[Array.getElem?_setIfInBounds_ne (by decide)];exact h.c49
theorem MaC.setPeak {L:Lay} {s:St} (h:MaC L s) (n:Nat):MaC { L with cs:=L.cs.setIfInBounds 46 (.int .i64 n) } { s with peak:=n } := by
 have hz:=h.sz;have hl:=h.stl;refine⟨by simp only[Array.size_setIfInBounds];exact h.sz,h.stl,fun j x hx=>?_,?_,?_,?_,?_,?_,?_,?_,?_,?_,?_,?_,?_,?_,?_,?_,?_,?_,?_⟩
 ·have:j<s.store.length:=(List.getElem?_eq_some_iff.1 hx).1;rw[Array.getElem?_setIfInBounds_ne (by omega)];exact h.st j x hx
 ·rw[Array.getElem?_setIfInBounds_ne (by decide)];exact h.c0
 ·rw[Array.getElem?_setIfInBounds_ne (by decide)];exact h.c1
 ·rw[Array.getElem?_setIfInBounds_ne (by decide)];exact h.c2
 ·rw[Array.getElem?_setIfInBounds_ne (by decide)];exact h.c3
 ·rw[Array.getElem?_setIfInBounds_ne (by decide)];exact h.c4
 ·rw[Array.getElem?_setIfInBounds_ne (by decide)];exact h.c5
 ·rw[Array.getElem?_setIfInBounds_ne (by decide)];exact h.c6
 ·rw[Array.getElem?_setIfInBounds_ne (by decide)];exact h.c7
 ·rw[Array.getElem?_setIfInBounds_ne (by decide)];exact h.c40
 ·rw[Array.getElem?_setIfInBounds_ne (by decide)];exact h.c41
 ·rw[Array.getElem?_setIfInBounds_ne (by decide)];exact h.c42
 ·rw[Array.getElem?_setIfInBounds_ne (by decide)];exact h.c43
 ·rw[Array.getElem?_setIfInBounds_ne (by decide)];exact h.c44
 ·rw[Array.getElem?_setIfInBounds_ne (by decide)];exact h.c45
 ·rw[Array.getElem?_setIfInBounds_self_of_lt (by omega)]
 ·rw[Array.getElem?_setIfInBounds_ne (by decide)];exact h.c47
 ·rw[Array.getElem?_setIfInBounds_ne (by decide)];exact h.c48
 ·rw[Array.getElem?_setIfInBounds_ne (by decide)];exact h.c49
theorem MaC.setEnded {L:Lay} {s:St} (h:MaC L s) (b:Bool):MaC { L with cs:=L.cs.setIfInBounds 47 (.bool b) } { s with ended:=b } := by
 have hz:=h.sz;have hl:=h.stl;refine⟨by simp only[Array.size_setIfInBounds];exact h.sz,h.stl,fun j x hx=>?_,?_,?_,?_,?_,?_,?_,?_,?_,?_,?_,?_,?_,?_,?_,?_,?_,?_,?_⟩
 ·have:j<s.store.length:=(List.getElem?_eq_some_iff.1 hx).1;rw[Array.getElem?_setIfInBounds_ne (by omega)];exact h.st j x hx
 ·rw[Array.getElem?_setIfInBounds_ne (by decide)];exact h.c0
 ·rw[Array.getElem?_setIfInBounds_ne (by decide)];exact h.c1
 ·rw[Array.getElem?_setIfInBounds_ne (by decide)];exact h.c2
 ·rw[Array.getElem?_setIfInBounds_ne (by decide)];exact h.c3
 ·rw[Array.getElem?_setIfInBounds_ne (by decide)];exact h.c4
 ·rw[Array.getElem?_setIfInBounds_ne (by decide)];exact h.c5
 ·rw[Array.getElem?_setIfInBounds_ne (by decide)];exact h.c6
 ·rw[Array.getElem?_setIfInBounds_ne (by decide)];exact h.c7
 ·rw[Array.getElem?_setIfInBounds_ne (by decide)];exact h.c40
 ·rw[Array.getElem?_setIfInBounds_ne (by decide)];exact h.c41
 ·rw[Array.getElem?_setIfInBounds_ne (by decide)];exact h.c42
 ·rw[Array.getElem?_setIfInBounds_ne (by decide)];exact h.c43
 ·rw[Array.getElem?_setIfInBounds_ne (by decide)];exact h.c44
 ·rw[Array.getElem?_setIfInBounds_ne (by decide)];exact h.c45
 ·rw[Array.getElem?_setIfInBounds_ne (by decide)];exact h.c46
 ·rw[Array.getElem?_setIfInBounds_self_of_lt (by omega)]
 ·rw[Array.getElem?_setIfInBounds_ne (by decide)];exact h.c48
 ·rw[Array.getElem?_setIfInBounds_ne (by decide)];exact h.c49
theorem MaC.setErr {L:Lay} {s:St} (h:MaC L s) (n:Int):MaC { L with cs:=L.cs.setIfInBounds 48 (.int .i64 n) } { s with err:=n } := by
 have hz:=h.sz;have hl:=h.stl;refine⟨by simp only[Array.size_setIfInBounds];exact h.sz,h.stl,fun j x hx=>?_,?_,?_,?_,?_,?_,?_,?_,?_,?_,?_,?_,?_,?_,?_,?_,?_,?_,?_⟩
 ·have:j<s.store.length:=(List.getElem?_eq_some_iff.1 hx).1;rw[Array.getElem?_setIfInBounds_ne (by omega)];exact h.st j x hx
 ·rw[Array.getElem?_setIfInBounds_ne (by decide)];exact h.c0
 ·rw[Array.getElem?_setIfInBounds_ne (by decide)];exact h.c1
 ·rw[Array.getElem?_setIfInBounds_ne (by decide)];exact h.c2
 ·rw[Array.getElem?_setIfInBounds_ne (by decide)];exact h.c3
 ·rw[Array.getElem?_setIfInBounds_ne (by decide)];exact h.c4
 ·rw[Array.getElem?_setIfInBounds_ne (by decide)];exact h.c5
 ·rw[Array.getElem?_setIfInBounds_ne (by decide)];exact h.c6
 ·rw[Array.getElem?_setIfInBounds_ne (by decide)];exact h.c7
 ·rw[Array.getElem?_setIfInBounds_ne (by decide)];exact h.c40
 ·rw[Array.getElem?_setIfInBounds_ne (by decide)];exact h.c41
 ·rw[Array.getElem?_setIfInBounds_ne (by decide)];exact h.c42
 ·rw[Array.getElem?_setIfInBounds_ne (by decide)];exact h.c43
 ·rw[Array.getElem?_setIfInBounds_ne (by decide)];exact h.c44
 ·rw[Array.getElem?_setIfInBounds_ne (by decide)];exact h.c45
 ·rw[Array.getElem?_setIfInBounds_ne (by decide)];exact h.c46
 ·rw[Array.getElem?_setIfInBounds_ne (by decide)];exact h.c47
 ·rw[Array.getElem?_setIfInBounds_self_of_lt (by omega)]
 ·rw[Array.getElem?_setIfInBounds_ne (by decide)];exact h.c49
theorem MaC.setStore {L:Lay} {s:St} (h:MaC L s) (i:Nat) (n:Int) (hi:i<32):MaC { L with cs:=L.cs.setIfInBounds (8+i) (.int .i64 n) } { s with store:=s.store.set i n } := by
 have hz:=h.sz;have hl:=h.stl;refine⟨by simp only[Array.size_setIfInBounds];exact h.sz,by simp only[List.length_set];exact h.stl,fun j x hx=>?_,?_,?_,?_,?_,?_,?_,?_,?_,?_,?_,?_,?_,?_,?_,?_,?_,?_,?_⟩
 ·simp only[List.getElem?_set] at hx;rw[Array.getElem?_setIfInBounds];by_cases e:i=j
  ·subst e;rw[if_pos rfl,if_pos (by omega)] at hx
   injection hx with hx
   subst hx;rw[if_pos rfl,if_pos (by omega)]
  ·rw[if_neg e] at hx;rw[if_neg (by omega)];exact h.st j x hx
 ·rw[Array.getElem?_setIfInBounds_ne (by omega)];exact h.c0
 ·rw[Array.getElem?_setIfInBounds_ne (by omega)];exact h.c1
 ·rw[Array.getElem?_setIfInBounds_ne (by omega)];exact h.c2
 ·rw[Array.getElem?_setIfInBounds_ne (by omega)];exact h.c3
 ·rw[Array.getElem?_setIfInBounds_ne (by omega)];exact h.c4
 ·rw[Array.getElem?_setIfInBounds_ne (by omega)];exact h.c5
 ·rw[Array.getElem?_setIfInBounds_ne (by omega)];exact h.c6
 ·rw[Array.getElem?_setIfInBounds_ne (by omega)];exact h.c7
 ·rw[Array.getElem?_setIfInBounds_ne (by omega)];exact h.c40
 ·rw[Array.getElem?_setIfInBounds_ne (by omega)];exact h.c41
 ·rw[Array.getElem?_setIfInBounds_ne (by omega)];exact h.c42
 ·rw[Array.getElem?_setIfInBounds_ne (by omega)];exact h.c43
 ·rw[Array.getElem?_setIfInBounds_ne (by omega)];exact h.c44
 ·rw[Array.getElem?_setIfInBounds_ne (by omega)];exact h.c45
 ·rw[Array.getElem?_setIfInBounds_ne (by omega)];exact h.c46
 ·rw[Array.getElem?_setIfInBounds_ne (by omega)];exact h.c47
 ·rw[Array.getElem?_setIfInBounds_ne (by omega)];exact h.c48
 ·rw[Array.getElem?_setIfInBounds_ne (by omega)];exact h.c49
structure MaL (w:World) (mb:Nat) (O:Nat→Prop) (L:Lay) (s:St):Prop where
 mbO:O mb
 olt:∀ k,O k→k<w.heap.size
 blk:Blk w mb 212 L.cs
 c:MaC L s
 fu:Row w O 24 1 L.fu s.funcs.length L.fus
 fr:Row w O 205 3 L.fr s.frames.length (frC L.frs s.frames)
 og:Row w O 76 2 L.og s.org.length (pts s.org)
 cu:Row w O 76 2 L.cu s.cur.length (pts s.cur)
 to:Row w O 3 1 L.to s.touch.length (ints s.touch)
 en:Row w O 3 1 L.en s.ends.length (ints s.ends)
 co:Row w O 252 2 L.co s.cont.length (cts s.cont)
 cv:Row w O 3 1 L.cv s.cvt.length (ints s.cvt)
 sk:Row w O 3 1 L.sk s.stack.length (ints s.stack.reverse)
 fuc:Codes w O L.fus s.funcs
 frc:Codes w O L.frs (s.frames.map (·.code))
 ap_cu_og:Apart L.cu L.og
 ap_to_en:Apart L.to L.en
 ap_to_cv:Apart L.to L.cv
 ap_to_sk:Apart L.to L.sk
 ap_en_cv:Apart L.en L.cv
 ap_en_sk:Apart L.en L.sk
 ap_cv_sk:Apart L.cv L.sk
 dd:Deeds w O L.db
 ok:Ok s
section
variable {w w' : World} {O O' : Nat → Prop} {t : TypeId} {size : Nat} {v : Value} {n : Nat} {xs : List Value} {mb : Nat} {cs : Array Value} {r : Option Nat}
theorem Row.k (h:Row w O t size v n xs) (hmb:Blk w mb 212 cs) (ht:t≠212) (hk:∀ k,O k→k≠mb→some k≠r→w'.heap[k]?=w.heap[k]?) (hr:∀ g,v.ownBlock=some g→r≠some g) (hO:∀ k,O k→O' k):Row w' O' t size v n xs :=
 h.keep (fun g hg=>hk g (h.2 g hg) (h.ne_blk hmb ht hg) (fun e=>hr g hg e.symm)) hO
theorem Codes.k {vs:List Value} {cl:List (List (Int×Int))} (h:Codes w O vs cl) (hmb:Blk w mb 212 cs) (hk:∀ k,O k→k≠mb→some k≠r→w'.heap[k]?=w.heap[k]?) (hr:∀ g cs,Blk w g 96 cs→r≠some g) (hO:∀ k,O k→O' k):Codes w' O' vs cl :=
 Codes.keep (fun g cs hg hb=>hk g hg (hb.ne_ hmb (by decide)) (fun e=>hr g cs hb e.symm)) hO h
theorem Deeds.k {db:Nat} (h:Deeds w O db) (hmb:Blk w mb 212 cs) (hk:∀ k,O k→k≠mb→some k≠r→w'.heap[k]?=w.heap[k]?) {t0:TypeId} (ht1:t0≠74) (ht2:t0≠117) (hr:∀ g,r=some g→∃ cs,Blk w g t0 cs) (hO:∀ k,O k→O' k):Deeds w' O' db:=by
 refine h.keep ?_ (fun g t cs hg ht hb=>hk g hg ?_ ?_) hO
 ·obtain⟨h0,bs,clock,h1,_⟩:=h;refine hk db h0 ?_ ?_
  ·rintro rfl;unfold Blk at hmb;rw[h1] at hmb;cases hmb
  ·intro e;obtain⟨cs,hb⟩:=hr db e.symm;unfold Blk at hb;rw[h1] at hb;cases hb
 ·exact hb.ne_ hmb (by rcases ht with rfl|rfl <;> decide)
 ·intro e;obtain⟨cs',hb'⟩:=hr g e.symm;exact hb.ne_ hb' (by rcases ht with rfl|rfl <;> first|exact ht1.symm|exact ht2.symm) rfl
end
section
variable {w w' : World} {mb : Nat} {O O' : Nat → Prop} {L : Lay} {s : St}
theorem MaL.keep (h:MaL w mb O L s) (hk:∀ k,O k→w'.heap[k]?=w.heap[k]?) (hO:∀ k,O k→O' k) (hlt:∀ k,O' k→k<w'.heap.size):MaL w' mb O' L s :=
 ⟨hO _ h.mbO,hlt,(hk mb h.mbO).trans h.blk,h.c,h.fu.keep (fun g hg=>hk g (h.fu.2 g hg)) hO,h.fr.keep (fun g hg=>hk g (h.fr.2 g hg)) hO,h.og.keep (fun g hg=>hk g (h.og.2 g hg)) hO,h.cu.keep (fun g hg=>hk g (h.cu.2 g hg)) hO,h.to.keep (fun g hg=>hk g (h.to.2 g hg)) hO,h.en.keep (fun g hg=>hk g (h.en.2 g hg)) hO,h.co.keep (fun g hg=>hk g (h.co.2 g hg)) hO,h.cv.keep (fun g hg=>hk g (h.cv.2 g hg)) hO,h.sk.keep (fun g hg=>hk g (h.sk.2 g hg)) hO,h.fuc.keep (fun g _ hg _=>hk g hg) hO,h.frc.keep (fun g _ hg _=>hk g hg) hO,h.ap_cu_og,h.ap_to_en,h.ap_to_cv,h.ap_to_sk,h.ap_en_cv,h.ap_en_sk,h.ap_cv_sk,h.dd.keep (hk _ h.dd.1) (fun g _ _ hg _ _=>hk g hg) hO,h.ok⟩
theorem MaL.mono (h:MaL w mb O L s) (hO:∀ k,O k→O' k) (hlt:∀ k,O' k→k<w.heap.size):MaL w mb O' L s:=h.keep (fun _ _=>rfl) hO hlt
theorem MaL.cells (h:MaL w mb O L s) {cs':Array Value} {st':List Int} {lo' mo' md':Int} {sp' pk':Nat} {ed':Bool} {er':Int} (hblk:Blk w' mb 212 cs') (hc:MaC { L with cs:=cs' } { s with store:=st',look:=lo',move:=mo',mode:=md',steps:=sp',peak:=pk',ended:=ed',err:=er' }) (hk:∀ k,O k→k≠mb→some k≠none→w'.heap[k]?=w.heap[k]?) (hO:∀ k,O k→O' k) (hlt:∀ k,O' k→k<w'.heap.size) (hok:Ok { s with store:=st',look:=lo',move:=mo',mode:=md',steps:=sp',peak:=pk',ended:=ed',err:=er' }):MaL w' mb O' { L with cs:=cs' } { s with store:=st',look:=lo',move:=mo',mode:=md',steps:=sp',peak:=pk',ended:=ed',err:=er' } := by
 exact⟨hO _ h.mbO,hlt,hblk,hc,h.fu.k h.blk (by decide) hk (fun g hg e=>by cases e) hO,h.fr.k h.blk (by decide) hk (fun g hg e=>by cases e) hO,h.og.k h.blk (by decide) hk (fun g hg e=>by cases e) hO,h.cu.k h.blk (by decide) hk (fun g hg e=>by cases e) hO,h.to.k h.blk (by decide) hk (fun g hg e=>by cases e) hO,h.en.k h.blk (by decide) hk (fun g hg e=>by cases e) hO,h.co.k h.blk (by decide) hk (fun g hg e=>by cases e) hO,h.cv.k h.blk (by decide) hk (fun g hg e=>by cases e) hO,h.sk.k h.blk (by decide) hk (fun g hg e=>by cases e) hO,h.fuc.k h.blk hk (fun g cs hb e=>by cases e) hO,h.frc.k h.blk hk (fun g cs hb e=>by cases e) hO,h.ap_cu_og,h.ap_to_en,h.ap_to_cv,h.ap_to_sk,h.ap_en_cv,h.ap_en_sk,h.ap_cv_sk,h.dd.k h.blk hk (t0:=3) (by decide) (by decide) (fun g e=>by cases e) hO,hok⟩
theorem MaL.stack (h:MaL w mb O L s) {u:Value} {cs':Array Value} {l:List Int} (hblk:Blk w' mb 212 cs') (hc:MaC { L with cs:=cs',sk:=u } { s with stack:=l }) (hrow:Row w' O' 3 1 u l.length (ints l.reverse)) (hnew:∀ g,u.ownBlock=some g→L.sk.ownBlock=some g∨w.heap.size≤g) (hk:∀ k,O k→k≠mb→some k≠L.sk.ownBlock→w'.heap[k]?=w.heap[k]?) (hO:∀ k,O k→O' k) (hlt:∀ k,O' k→k<w'.heap.size) (hok:Ok { s with stack:=l }):MaL w' mb O' { L with cs:=cs',sk:=u } { s with stack:=l } := by
 exact⟨hO _ h.mbO,hlt,hblk,hc,h.fu.k h.blk (by decide) hk (fun g hg=>h.fu.apart h.sk (by decide) g hg) hO,h.fr.k h.blk (by decide) hk (fun g hg=>h.fr.apart h.sk (by decide) g hg) hO,h.og.k h.blk (by decide) hk (fun g hg=>h.og.apart h.sk (by decide) g hg) hO,h.cu.k h.blk (by decide) hk (fun g hg=>h.cu.apart h.sk (by decide) g hg) hO,h.to.k h.blk (by decide) hk (fun g hg=>h.ap_to_sk g hg) hO,h.en.k h.blk (by decide) hk (fun g hg=>h.ap_en_sk g hg) hO,h.co.k h.blk (by decide) hk (fun g hg=>h.co.apart h.sk (by decide) g hg) hO,h.cv.k h.blk (by decide) hk (fun g hg=>h.ap_cv_sk g hg) hO,hrow,h.fuc.k h.blk hk (fun g cs hb e=>by obtain⟨_,_,cs2,hb2⟩:=h.sk.block e;exact hb.ne_ hb2 (by decide) rfl) hO,h.frc.k h.blk hk (fun g cs hb e=>by obtain⟨_,_,cs2,hb2⟩:=h.sk.block e;exact hb.ne_ hb2 (by decide) rfl) hO,h.ap_cu_og,h.ap_to_en,h.ap_to_cv,(Apart.symm ((fun g h1 h2=>by rcases hnew g h1 with h3|h3;exact(h.ap_to_sk.symm) g h3 h2;have:=(h.to.block h2).2.1;omega))),h.ap_en_cv,(Apart.symm ((fun g h1 h2=>by rcases hnew g h1 with h3|h3;exact(h.ap_en_sk.symm) g h3 h2;have:=(h.en.block h2).2.1;omega))),(Apart.symm ((fun g h1 h2=>by rcases hnew g h1 with h3|h3;exact(h.ap_cv_sk.symm) g h3 h2;have:=(h.cv.block h2).2.1;omega))),h.dd.k h.blk hk (t0:=3) (by decide) (by decide) (fun g e=>by obtain⟨_,_,cs2,hb2⟩:=h.sk.block e;exact⟨cs2,hb2⟩) hO,hok⟩
theorem MaL.frames_ (h:MaL w mb O L s) {u:Value} {cs':Array Value} {vs:List Value} {fs:List Fm} (hcod:Codes w' O' vs (fs.map (·.code))) (hblk:Blk w' mb 212 cs') (hc:MaC { L with cs:=cs',fr:=u,frs:=vs } { s with frames:=fs }) (hrow:Row w' O' 205 3 u fs.length (frC vs fs)) (_hnew:∀ g,u.ownBlock=some g→L.fr.ownBlock=some g∨w.heap.size≤g) (hk:∀ k,O k→k≠mb→some k≠L.fr.ownBlock→w'.heap[k]?=w.heap[k]?) (hO:∀ k,O k→O' k) (hlt:∀ k,O' k→k<w'.heap.size) (hok:Ok { s with frames:=fs }):MaL w' mb O' { L with cs:=cs',fr:=u,frs:=vs } { s with frames:=fs } := by
 exact⟨hO _ h.mbO,hlt,hblk,hc,h.fu.k h.blk (by decide) hk (fun g hg=>h.fu.apart h.fr (by decide) g hg) hO,hrow,h.og.k h.blk (by decide) hk (fun g hg=>h.og.apart h.fr (by decide) g hg) hO,h.cu.k h.blk (by decide) hk (fun g hg=>h.cu.apart h.fr (by decide) g hg) hO,h.to.k h.blk (by decide) hk (fun g hg=>h.to.apart h.fr (by decide) g hg) hO,h.en.k h.blk (by decide) hk (fun g hg=>h.en.apart h.fr (by decide) g hg) hO,h.co.k h.blk (by decide) hk (fun g hg=>h.co.apart h.fr (by decide) g hg) hO,h.cv.k h.blk (by decide) hk (fun g hg=>h.cv.apart h.fr (by decide) g hg) hO,h.sk.k h.blk (by decide) hk (fun g hg=>h.sk.apart h.fr (by decide) g hg) hO,h.fuc.k h.blk hk (fun g cs hb e=>by obtain⟨_,_,cs2,hb2⟩:=h.fr.block e;exact hb.ne_ hb2 (by decide) rfl) hO,hcod,h.ap_cu_og,h.ap_to_en,h.ap_to_cv,h.ap_to_sk,h.ap_en_cv,h.ap_en_sk,h.ap_cv_sk,h.dd.k h.blk hk (t0:=205) (by decide) (by decide) (fun g e=>by obtain⟨_,_,cs2,hb2⟩:=h.fr.block e;exact⟨cs2,hb2⟩) hO,hok⟩
theorem MaL.cur_ (h:MaL w mb O L s) {l:List (Int×Int)} (hl:l.length=s.cur.length) (hrow:Row w' O' 76 2 L.cu s.cur.length (pts l)) (hmb:w'.heap[mb]?=w.heap[mb]?) (hk:∀ k,O k→k≠mb→some k≠L.cu.ownBlock→w'.heap[k]?=w.heap[k]?) (hO:∀ k,O k→O' k) (hlt:∀ k,O' k→k<w'.heap.size) (hok:Ok { s with cur:=l }):MaL w' mb O' L { s with cur:=l } := by
 exact⟨hO _ h.mbO,hlt,hmb.trans h.blk,⟨h.c.sz,h.c.stl,h.c.st,h.c.c0,h.c.c1,h.c.c2,h.c.c3,h.c.c4,h.c.c5,h.c.c6,h.c.c7,h.c.c40,h.c.c41,h.c.c42,h.c.c43,h.c.c44,h.c.c45,h.c.c46,h.c.c47,h.c.c48,h.c.c49⟩,h.fu.k h.blk (by decide) hk (fun g hg=>h.fu.apart h.cu (by decide) g hg) hO,h.fr.k h.blk (by decide) hk (fun g hg=>h.fr.apart h.cu (by decide) g hg) hO,h.og.k h.blk (by decide) hk (fun g hg=>h.ap_cu_og.symm g hg) hO,by rw[hl];exact hrow,h.to.k h.blk (by decide) hk (fun g hg=>h.to.apart h.cu (by decide) g hg) hO,h.en.k h.blk (by decide) hk (fun g hg=>h.en.apart h.cu (by decide) g hg) hO,h.co.k h.blk (by decide) hk (fun g hg=>h.co.apart h.cu (by decide) g hg) hO,h.cv.k h.blk (by decide) hk (fun g hg=>h.cv.apart h.cu (by decide) g hg) hO,h.sk.k h.blk (by decide) hk (fun g hg=>h.sk.apart h.cu (by decide) g hg) hO,h.fuc.k h.blk hk (fun g cs hb e=>by obtain⟨_,_,cs2,hb2⟩:=h.cu.block e;exact hb.ne_ hb2 (by decide) rfl) hO,h.frc.k h.blk hk (fun g cs hb e=>by obtain⟨_,_,cs2,hb2⟩:=h.cu.block e;exact hb.ne_ hb2 (by decide) rfl) hO,h.ap_cu_og,h.ap_to_en,h.ap_to_cv,h.ap_to_sk,h.ap_en_cv,h.ap_en_sk,h.ap_cv_sk,h.dd.k h.blk hk (t0:=76) (by decide) (by decide) (fun g e=>by obtain⟨_,_,cs2,hb2⟩:=h.cu.block e;exact⟨cs2,hb2⟩) hO,hok⟩
theorem MaL.touch_ (h:MaL w mb O L s) {l:List Int} (hl:l.length=s.touch.length) (hrow:Row w' O' 3 1 L.to s.touch.length (ints l)) (hmb:w'.heap[mb]?=w.heap[mb]?) (hk:∀ k,O k→k≠mb→some k≠L.to.ownBlock→w'.heap[k]?=w.heap[k]?) (hO:∀ k,O k→O' k) (hlt:∀ k,O' k→k<w'.heap.size) (hok:Ok { s with touch:=l }):MaL w' mb O' L { s with touch:=l } := by
 exact⟨hO _ h.mbO,hlt,hmb.trans h.blk,⟨h.c.sz,h.c.stl,h.c.st,h.c.c0,h.c.c1,h.c.c2,h.c.c3,h.c.c4,h.c.c5,h.c.c6,h.c.c7,h.c.c40,h.c.c41,h.c.c42,h.c.c43,h.c.c44,h.c.c45,h.c.c46,h.c.c47,h.c.c48,h.c.c49⟩,h.fu.k h.blk (by decide) hk (fun g hg=>h.fu.apart h.to (by decide) g hg) hO,h.fr.k h.blk (by decide) hk (fun g hg=>h.fr.apart h.to (by decide) g hg) hO,h.og.k h.blk (by decide) hk (fun g hg=>h.og.apart h.to (by decide) g hg) hO,h.cu.k h.blk (by decide) hk (fun g hg=>h.cu.apart h.to (by decide) g hg) hO,by rw[hl];exact hrow,h.en.k h.blk (by decide) hk (fun g hg=>h.ap_to_en.symm g hg) hO,h.co.k h.blk (by decide) hk (fun g hg=>h.co.apart h.to (by decide) g hg) hO,h.cv.k h.blk (by decide) hk (fun g hg=>h.ap_to_cv.symm g hg) hO,h.sk.k h.blk (by decide) hk (fun g hg=>h.ap_to_sk.symm g hg) hO,h.fuc.k h.blk hk (fun g cs hb e=>by obtain⟨_,_,cs2,hb2⟩:=h.to.block e;exact hb.ne_ hb2 (by decide) rfl) hO,h.frc.k h.blk hk (fun g cs hb e=>by obtain⟨_,_,cs2,hb2⟩:=h.to.block e;exact hb.ne_ hb2 (by decide) rfl) hO,h.ap_cu_og,h.ap_to_en,h.ap_to_cv,h.ap_to_sk,h.ap_en_cv,h.ap_en_sk,h.ap_cv_sk,h.dd.k h.blk hk (t0:=3) (by decide) (by decide) (fun g e=>by obtain⟨_,_,cs2,hb2⟩:=h.to.block e;exact⟨cs2,hb2⟩) hO,hok⟩
theorem MaL.cvt_ (h:MaL w mb O L s) {l:List Int} (hl:l.length=s.cvt.length) (hrow:Row w' O' 3 1 L.cv s.cvt.length (ints l)) (hmb:w'.heap[mb]?=w.heap[mb]?) (hk:∀ k,O k→k≠mb→some k≠L.cv.ownBlock→w'.heap[k]?=w.heap[k]?) (hO:∀ k,O k→O' k) (hlt:∀ k,O' k→k<w'.heap.size) (hok:Ok { s with cvt:=l }):MaL w' mb O' L { s with cvt:=l } := by
 exact⟨hO _ h.mbO,hlt,hmb.trans h.blk,⟨h.c.sz,h.c.stl,h.c.st,h.c.c0,h.c.c1,h.c.c2,h.c.c3,h.c.c4,h.c.c5,h.c.c6,h.c.c7,h.c.c40,h.c.c41,h.c.c42,h.c.c43,h.c.c44,h.c.c45,h.c.c46,h.c.c47,h.c.c48,h.c.c49⟩,h.fu.k h.blk (by decide) hk (fun g hg=>h.fu.apart h.cv (by decide) g hg) hO,h.fr.k h.blk (by decide) hk (fun g hg=>h.fr.apart h.cv (by decide) g hg) hO,h.og.k h.blk (by decide) hk (fun g hg=>h.og.apart h.cv (by decide) g hg) hO,h.cu.k h.blk (by decide) hk (fun g hg=>h.cu.apart h.cv (by decide) g hg) hO,h.to.k h.blk (by decide) hk (fun g hg=>h.ap_to_cv g hg) hO,h.en.k h.blk (by decide) hk (fun g hg=>h.ap_en_cv g hg) hO,h.co.k h.blk (by decide) hk (fun g hg=>h.co.apart h.cv (by decide) g hg) hO,by rw[hl];exact hrow,h.sk.k h.blk (by decide) hk (fun g hg=>h.ap_cv_sk.symm g hg) hO,h.fuc.k h.blk hk (fun g cs hb e=>by obtain⟨_,_,cs2,hb2⟩:=h.cv.block e;exact hb.ne_ hb2 (by decide) rfl) hO,h.frc.k h.blk hk (fun g cs hb e=>by obtain⟨_,_,cs2,hb2⟩:=h.cv.block e;exact hb.ne_ hb2 (by decide) rfl) hO,h.ap_cu_og,h.ap_to_en,h.ap_to_cv,h.ap_to_sk,h.ap_en_cv,h.ap_en_sk,h.ap_cv_sk,h.dd.k h.blk hk (t0:=3) (by decide) (by decide) (fun g e=>by obtain⟨_,_,cs2,hb2⟩:=h.cv.block e;exact⟨cs2,hb2⟩) hO,hok⟩
end
def ext (O:Nat→Prop) (w w':World) (k:Nat):Prop:=O k∨(w.heap.size≤k∧k<w'.heap.size)
section
variable {w w' w'' : World} {mb : Nat} {O : Nat → Prop} {L : Lay} {s : St}
theorem MaL.ext_lt (h:MaL w mb O L s) (hz:w.heap.size≤w'.heap.size):∀ k,ext O w w' k→k<w'.heap.size:=fun k hk=>by
 rcases hk with hk|hk
 ·have:=h.olt k hk;omega
 ·exact hk.2
def MPost (w:World) (mb:Nat) (O:Nat→Prop) (s:St) (e:Ending) (w':World):Prop:=e=.returned (.tuple #[])∧(∃ L,MaL w' mb (ext O w w') L s)∧Fr O w w'
theorem Fr.ext (h:Fr O w w') (k:Fr (ext O w w') w' w''):Fr O w w'' :=
 ⟨k.os.trans h.os,k.tape.trans h.tape,k.output.trans h.output,Nat.le_trans h.size k.size,fun i hi hs=>(k.block i (Nat.lt_of_lt_of_le hi h.size) (fun a=>by rcases a with a|a;exact hs a;omega)).trans (h.block i hi hs)⟩
theorem MaL.alloc (h:MaL w mb O L s) (o:Obj):MaL (w.alloc o) mb O L s:=h.keep (fun k hk=>Below.heap_alloc _ _ _ (h.olt k hk)) (fun _ h=>h) (fun k hk=>by have:=h.olt k hk;simp;omega)
theorem MaL.drew (h:MaL w mb O L s):MaL w.drew mb O L s:=h.keep (fun _ _=>rfl) (fun _ h=>h) h.olt
theorem MaL.outer (h:MaL w mb O L s) {p:Addr} (hp:¬ O p.block) (u:Value):MaL (w.setCell p u) mb O L s :=
 h.keep (fun k hk=>Below.heap_setCell _ _ _ _ (fun e=>hp (e ▸ hk))) (fun _ h=>h) (fun k hk=>by have:=h.olt k hk;simpa [World.setCell] using this)
end
end Go.Proofs.YtnhebmgibiomnaaGreat
namespace Go.Proofs.YtnhebmgibiomnaaGreat
open Go.RowKit Mc
theorem Hz (m:List Int) (x:Int):(ints (x::m).reverse)[m.length]?=some (.int .i64 x):=by
 unfold ints;rw[List.reverse_cons,List.getElem?_map,List.getElem?_append_right (by simp)];simp
theorem Lx (m:List Int) (x y:Int):(ints (x::y::m).reverse)[m.length]?=some (.int .i64 y):=by
 unfold ints;rw[List.reverse_cons,List.getElem?_map,List.getElem?_append_left (by simp),List.reverse_cons,List.getElem?_append_right (by simp)];simp
theorem Lw (m a:List Int):(ints (a++m).reverse).take (m.length*1)=ints m.reverse:=by
 unfold ints;rw[←List.map_take,List.reverse_append,Nat.mul_one]
 congr 1
 exact List.take_left' (by simp)
theorem Mc.Ok.stack_ {s:St} (h:Ok s) {l:List Int} (h1:∀ x∈l,K32 x) (h2:l.length≤32):Ok { s with stack:=l } :=
 ⟨h1,h2,h.cvt,h.store,h.stl,h.cur,h.org,h.orgl,h.touch,h.tl,h.size,h.look,h.move,h.mode,h.peak,h.frames,h.flen,h.funcs,h.fnl,h.cont,h.contl,h.curl,h.cvl,h.endl⟩
section
variable {w : World} {mb : Nat} {O : Nat → Prop} {L : Lay} {s : St}
theorem MaL.taken (h:MaL w mb O L s) {a r:List Int} (hs:s.stack=a++r) {A:Option Addr} {n c:Nat} (hv:L.sk=.slice A n c) {w1:World} (hk:∀ k,O k→w1.heap[k]?=w.heap[k]?) (hz:w1.heap.size=w.heap.size) :
  ∃ L',MaL (w1.setCell ⟨mb,40,none⟩ (.slice A r.length c)) mb O L' { s with stack:=r } := by
 have hn:n=(a++r).length:=by
  obtain⟨A',c',e,_⟩:=h.sk.form;rw[hv] at e
  injection e with _ e
  rw[e,hs]
 have h1:MaL w1 mb O L s:=h.keep hk (fun _ h=>h) (fun k hk'=>by have:=h.olt k hk';omega);have hrow:=h1.sk.take (m:=r.length) (by rw[hs];simp) (A:=A) (c:=c) (by rw[hv,hn,hs]);rw[hs,Lw] at hrow;have hkk:∀ k,k≠mb→(w1.setCell ⟨mb,40,none⟩ (.slice A r.length c)).heap[k]?=w1.heap[k]?:=fun k hk=>Below.heap_setCell _ _ _ _ hk
 refine⟨_,h1.stack (u:=.slice A r.length c) (l:=r) (h1.blk.set_ 40 _) (h1.c.setSk _ _) (hrow.keep (fun g hg=>hkk g (fun e=>?_)) (fun _ h=>h)) ?_ (fun k _ hk _=>hkk k hk) (fun _ h=>h) (fun k hk'=>by have:=h1.olt k hk';simpa [World.setCell] using this) (h.ok.stack_ (fun x hx=>h.ok.stack x (by rw[hs];exact List.mem_append_right _ hx)) (by have:=h.ok.slen;rw[hs,List.length_append] at this;omega))⟩
 ·exact hrow.ne_blk h1.blk (by decide) hg e
 ·intro g hg;rw[hv];cases A with
  | none=>simp[Value.ownBlock] at hg
  | some a=>exact .inl hg
end
theorem Us (w:World) (mb:Nat) (O:Nat→Prop) (L:Lay) (s:St) (h:MaL w mb O L s) (x:Int) (r:List Int) (hs:s.stack=x::r) (b1 sb:Nat) (u1:Value) (h1:Blk w b1 3 #[u1]) (hsb:Blk w sb 246 #[.pointer (some ⟨b1,0,none⟩)]) (ho1:¬ O b1) :
  Calls Tryz.prog 169 #[.pointer (some ⟨mb,0,none⟩),.slice (some ⟨sb,0,none⟩) 1 1] w fun e w'=>e=.returned (.tuple #[])∧(∃ L',MaL w' mb O L' { s with stack:=r })∧Blk w' b1 3 #[.int .i64 x]∧Fr (fun k=>O k∨k=b1) w w'∧∃ v,w'=(w.setCell ⟨b1,0,none⟩ (.int .i64 x)).setCell ⟨mb,40,none⟩ v:=by
 have hsk:=h.sk;rw[hs] at hsk;obtain⟨g,c,hv,hc1,hc2,hg,hgl,hcells,hfz⟩:=hsk.at_ (by simp);have d0:=hcells r.length (.int .i64 x) (Hz r x);have c40:=h.blk.cell 40;rw[h.c.c40,hv] at c40;have f40:=h.blk.frozen 40;have lmb:=h.blk.lt;have x0:=hsb.cell 0;have x1:=hsb.lt;have y0:=h1.cell 0;have y1:=h1.frozen 0;have y2:=h1.lt;simp only[List.getElem?_toArray,List.getElem?_cons_zero] at x0 y0;have n1:b1≠mb:=fun e=>ho1 (e ▸ h.mbO)
 have n1':=n1.symm;have n2:b1≠g:=fun e=>ho1 (e ▸ hg)
 have n2':=n2.symm;have hlen:=h.ok.slen;rw[hs] at hlen;simp only[List.length_cons] at hlen c40;have hk:∀ k,O k→(w.setCell ⟨b1,0,none⟩ (.int .i64 x)).heap[k]?=w.heap[k]?:=fun k hk=>Below.heap_setCell _ _ _ _ (fun (e:k=b1)=>ho1 (e ▸ hk))
 have hM:=h.taken (a:=[x]) (r:=r) (by rw[hs];rfl) hv hk (by simp[World.setCell]);have hB:Blk ((w.setCell ⟨b1,0,none⟩ (.int .i64 x)).setCell ⟨mb,40,none⟩ (.slice (some ⟨g,0,none⟩) r.length c)) b1 3 #[.int .i64 x]:=(h1.set_ 0 _).far n1 _;have hF:Fr (fun k=>O k∨k=b1) w ((w.setCell ⟨b1,0,none⟩ (.int .i64 x)).setCell ⟨mb,40,none⟩ (.slice (some ⟨g,0,none⟩) r.length c)):=((Fr.refl _ _).setCell (.inl (.inr rfl)) _).setCell (.inl (.inl h.mbO)) _;have HM:=Aa hM;have HB:=Aa hB;have HF:=Aa hF;clear hM hB hF hk hcells hfz hsk h hsb h1 hs hv hc2;generalize hm:r.length=m at *;have hcm:m≤c:=by simp at hc1;omega
 clear hc1 hm;go_enter Tryz.func169,Tryz.ntmps169;go_wp2;refine wp_loop_rounds 2 ?_;rw[rounds_succ];go_wp2;rw[rounds_succ];go_wp2;go_end0;exact⟨rfl,HM.out,HB.out,HF.out,_,rfl⟩
theorem Ur (w:World) (mb:Nat) (O:Nat→Prop) (L:Lay) (s:St) (h:MaL w mb O L s) (x y:Int) (r:List Int) (hs:s.stack=x::y::r) (b1 b2 sb:Nat) (u1 u2:Value) (h1:Blk w b1 3 #[u1]) (h2:Blk w b2 3 #[u2]) (h12:b1≠b2) (hsb:Blk w sb 246 #[.pointer (some ⟨b1,0,none⟩),.pointer (some ⟨b2,0,none⟩)]) (ho1:¬ O b1) (ho2:¬ O b2) :
  Calls Tryz.prog 169 #[.pointer (some ⟨mb,0,none⟩),.slice (some ⟨sb,0,none⟩) 2 2] w fun e w'=>e=.returned (.tuple #[])∧(∃ L',MaL w' mb O L' { s with stack:=r })∧Blk w' b1 3 #[.int .i64 y]∧Blk w' b2 3 #[.int .i64 x]∧Fr (fun k=>O k∨k=b1∨k=b2) w w'∧∃ v,w'=((w.setCell ⟨b1,0,none⟩ (.int .i64 y)).setCell ⟨b2,0,none⟩ (.int .i64 x)).setCell ⟨mb,40,none⟩ v:=by
 have hsk:=h.sk;rw[hs] at hsk;obtain⟨g,c,hv,hc1,hc2,hg,hgl,hcells,hfz⟩:=hsk.at_ (by simp);have d0:=hcells r.length (.int .i64 y) (Lx r x y);have d1:=hcells (r.length+1) (.int .i64 x) (Hz (y::r) x);have c40:=h.blk.cell 40;rw[h.c.c40,hv] at c40;have f40:=h.blk.frozen 40;have lmb:=h.blk.lt;have x0:=hsb.cell 0;have x01:=hsb.cell 1;have x1:=hsb.lt;have y0:=h1.cell 0;have y1:=h1.frozen 0;have y2:=h1.lt;have z0:=h2.cell 0;have z1:=h2.frozen 0;have z2:=h2.lt;simp only[List.getElem?_toArray,List.getElem?_cons_zero,List.getElem?_cons_succ] at x0 x01 y0 z0;have n1:b1≠mb:=fun e=>ho1 (e ▸ h.mbO)
 have n1':=n1.symm;have n2:b1≠g:=fun e=>ho1 (e ▸ hg)
 have n2':=n2.symm;have n3:b2≠mb:=fun e=>ho2 (e ▸ h.mbO)
 have n3':=n3.symm;have n4:b2≠g:=fun e=>ho2 (e ▸ hg)
 have n4':=n4.symm;have n5:sb≠b1:=hsb.ne_ h1 (by decide);have n6:sb≠b2:=hsb.ne_ h2 (by decide);have n7:=h12.symm;have hlen:=h.ok.slen;rw[hs] at hlen;simp only[List.length_cons] at hlen c40;have hk:∀ k,O k→((w.setCell ⟨b1,0,none⟩ (.int .i64 y)).setCell ⟨b2,0,none⟩ (.int .i64 x)).heap[k]?=w.heap[k]?:=fun k hk=>(Below.heap_setCell _ _ _ _ (fun (e:k=b2)=>ho2 (e ▸ hk))).trans (Below.heap_setCell _ _ _ _ (fun (e:k=b1)=>ho1 (e ▸ hk)))
 have hM:=h.taken (a:=[x,y]) (r:=r) (by rw[hs];rfl) hv hk (by simp[World.setCell]);have hB:Blk (((w.setCell ⟨b1,0,none⟩ (.int .i64 y)).setCell ⟨b2,0,none⟩ (.int .i64 x)).setCell ⟨mb,40,none⟩ (.slice (some ⟨g,0,none⟩) r.length c)) b1 3 #[.int .i64 y]:=((h1.set_ 0 _).far h12 _).far n1 _;have hB2:Blk (((w.setCell ⟨b1,0,none⟩ (.int .i64 y)).setCell ⟨b2,0,none⟩ (.int .i64 x)).setCell ⟨mb,40,none⟩ (.slice (some ⟨g,0,none⟩) r.length c)) b2 3 #[.int .i64 x]:=((h2.far n7 _).set_ 0 _).far n3 _;have hF:Fr (fun k=>O k∨k=b1∨k=b2) w (((w.setCell ⟨b1,0,none⟩ (.int .i64 y)).setCell ⟨b2,0,none⟩ (.int .i64 x)).setCell ⟨mb,40,none⟩ (.slice (some ⟨g,0,none⟩) r.length c)):=(((Fr.refl _ _).setCell (.inl (.inr (.inl rfl))) _).setCell (.inl (.inr (.inr rfl))) _).setCell (.inl (.inl h.mbO)) _;have HM:=Aa hM;have HB:=Aa hB;have HB2:=Aa hB2;have HF:=Aa hF;clear hM hB hB2 hF hk hcells hfz hsk h hsb h1 h2 hs hv hc2;generalize hm:r.length=m at *;have hcm:m≤c:=by simp at hc1;omega
 clear hc1 hm;go_enter Tryz.func169,Tryz.ntmps169;go_wp2;refine wp_loop_rounds 3 ?_;rw[rounds_succ];go_wp2;rw[rounds_succ];go_wp2;rw[rounds_succ];go_wp2;go_end0;exact⟨rfl,HM.out,HB.out,HB2.out,HF.out,_,rfl⟩
end Go.Proofs.YtnhebmgibiomnaaGreat
namespace Go.Proofs.YtnhebmgibiomnaaGreat
open Go.RowKit Mc
theorem Ec (w:World) (A:Option Addr) (n c B:Nat) (xs:List Value) (hr:Reads w B 1 A n xs) (h1:∀ u∈xs,u.oneCell'=true) (hn:n≤1000000000000) :
  Calls Tryz.prog 42 #[.slice A n c] w (Yv w 3 1 n xs):=by
 obtain⟨i0,hi0,hi1,hi2,hi3⟩:=Dc Gb;have q0:∀ (w:World) (a:Option Addr) (n c n' c':Nat),(binOp .eql 22 (.slice a n c) (.slice none n' c')).run Tryz.prog w=.ok (.bool a.isNone) w:=fun w a n c n' c'=>Lib.run_eql_slice_nil w _ _ a n c n' c' Tryz.underlying22
 have HR:=Aa hr;have H1:=Aa h1;have HN:=Aa hn;clear hr h1 hn;rcases A with _|ad
 ·have hn0:n=0:=by
   rcases Nat.eq_zero_or_pos n with h|h
   ·exact h
   ·obtain⟨b,off,e,_⟩:=HR.out.2 h;cases e
  subst hn0;have hx:xs=[]:=List.eq_nil_of_length_eq_zero (by simpa using HR.out.1);subst hx;go_enter Tryz.func42,Tryz.ntmps42;go_wp2;go_ret;exact⟨_,rfl,Di _ _ _ _,Fr.refl _ _⟩
 ·have HR2:Hid (∃ B,Reads (w.alloc (.cells #[] 3)) B 1 (some ad) n xs):=Aa (by
   rcases Nat.eq_zero_or_pos n with h|h
   ·subst h;have hx:xs=[]:=List.eq_nil_of_length_eq_zero (by simpa using HR.out.1);subst hx;exact⟨0,Reads.none_⟩
   ·obtain⟨b,off,e,hb,hc⟩:=HR.out.2 h;have hb0:b<w.heap.size:=by
     have hl:0<xs.length:=by rw[HR.out.1];exact Nat.mul_pos h (by decide)
     have:=hc 0 xs[0] (List.getElem?_eq_getElem hl);rcases Nat.lt_or_ge b w.heap.size with hlt|hge
     ·exact hlt
     ·rw[Nat.add_zero] at this;simp[World.cell?,Array.getElem?_eq_none hge] at this
    exact⟨B,HR.out.1,fun _=>⟨b,off,e,hb,fun j u hu=>(World.cell?_alloc_lt w _ _ hb0).trans (hc j u hu)⟩⟩)
  have hOE:(w.alloc (.cells #[] 3)).ownsRow w.heap.size 3 1 (.slice (some ⟨w.heap.size,0,none⟩) 0 0) 0 []:=Hl (Blk.new _ _ _) Ad;have HOE:=Aa hOE;clear hOE;obtain⟨B2,hR2⟩:=HR2.out;have HR3:=Aa hR2;clear hR2 HR2 HR;go_enter Tryz.func42,Tryz.ntmps42;go_wp2_with (at_builtin;refine Br _ rfl (.tmp 5) (.tmp 6) _ rfl w.heap.size 3 i0 _ 1 8 Tryz.underlying22 hi0 hi1 hi2 hi3 rfl (show 0<1 by decide) (.slice (some ⟨w.heap.size,0,none⟩) 0 0) 0 [] rfl HOE.out B2 _ n _ xs rfl HR3.out H1.out (by have:=HN.out;unfold maxLen;omega) (by have:=HN.out;omega) (by simp) ?_;intro v' w' ho hg _)
  go_ret;refine⟨_,rfl,by simpa using ho,Ds ((Fr.refl _ w).alloc _) hg (fun g e=>?_)⟩;simp only[Value.ownBlock,Option.some.injEq] at e;omega
theorem Rs (w:World) (A:Option Addr) (n c B:Nat) (xs:List Value) (hr:Reads w B 2 A n xs) (h1:∀ u∈xs,u.oneCell'=true) (hn:n≤1000000000000) :
  Calls Tryz.prog 101 #[.slice A n c] w (Yv w 76 2 n xs):=by
 obtain⟨i0,hi0,hi1,hi2,hi3⟩:=Dc Xf;have q0:∀ (w:World) (a:Option Addr) (n c n' c':Nat),(binOp .eql 28 (.slice a n c) (.slice none n' c')).run Tryz.prog w=.ok (.bool a.isNone) w:=fun w a n c n' c'=>Lib.run_eql_slice_nil w _ _ a n c n' c' Tryz.underlying28
 have HR:=Aa hr;have H1:=Aa h1;have HN:=Aa hn;clear hr h1 hn;rcases A with _|ad
 ·have hn0:n=0:=by
   rcases Nat.eq_zero_or_pos n with h|h
   ·exact h
   ·obtain⟨b,off,e,_⟩:=HR.out.2 h;cases e
  subst hn0;have hx:xs=[]:=List.eq_nil_of_length_eq_zero (by simpa using HR.out.1);subst hx;go_enter Tryz.func101,Tryz.ntmps101;go_wp2;go_ret;exact⟨_,rfl,Di _ _ _ _,Fr.refl _ _⟩
 ·have HR2:Hid (∃ B,Reads (w.alloc (.cells #[] 76)) B 2 (some ad) n xs):=Aa (by
   rcases Nat.eq_zero_or_pos n with h|h
   ·subst h;have hx:xs=[]:=List.eq_nil_of_length_eq_zero (by simpa using HR.out.1);subst hx;exact⟨0,Reads.none_⟩
   ·obtain⟨b,off,e,hb,hc⟩:=HR.out.2 h;have hb0:b<w.heap.size:=by
     have hl:0<xs.length:=by rw[HR.out.1];exact Nat.mul_pos h (by decide)
     have:=hc 0 xs[0] (List.getElem?_eq_getElem hl);rcases Nat.lt_or_ge b w.heap.size with hlt|hge
     ·exact hlt
     ·rw[Nat.add_zero] at this;simp[World.cell?,Array.getElem?_eq_none hge] at this
    exact⟨B,HR.out.1,fun _=>⟨b,off,e,hb,fun j u hu=>(World.cell?_alloc_lt w _ _ hb0).trans (hc j u hu)⟩⟩)
  have hOE:(w.alloc (.cells #[] 76)).ownsRow w.heap.size 76 2 (.slice (some ⟨w.heap.size,0,none⟩) 0 0) 0 []:=Hl (Blk.new _ _ _) Ad;have HOE:=Aa hOE;clear hOE;obtain⟨B2,hR2⟩:=HR2.out;have HR3:=Aa hR2;clear hR2 HR2 HR;go_enter Tryz.func101,Tryz.ntmps101;go_wp2_with (at_builtin;refine Br _ rfl (.tmp 5) (.tmp 6) _ rfl w.heap.size 76 i0 _ 2 16 Tryz.underlying28 hi0 hi1 hi2 hi3 rfl (show 0<2 by decide) (.slice (some ⟨w.heap.size,0,none⟩) 0 0) 0 [] rfl HOE.out B2 _ n _ xs rfl HR3.out H1.out (by have:=HN.out;unfold maxLen;omega) (by have:=HN.out;omega) (by simp) ?_;intro v' w' ho hg _)
  go_ret;refine⟨_,rfl,by simpa using ho,Ds ((Fr.refl _ w).alloc _) hg (fun g e=>?_)⟩;simp only[Value.ownBlock,Option.some.injEq] at e;omega
theorem Ny (w:World) (A:Option Addr) (n c B:Nat) (xs:List Value) (hr:Reads w B 2 A n xs) (h1:∀ u∈xs,u.oneCell'=true) (hn:n≤1000000000000) :
  Calls Tryz.prog 97 #[.slice A n c] w (Yv w 96 2 n xs):=by
 obtain⟨i0,hi0,hi1,hi2,hi3⟩:=Dc Zba;have q0:∀ (w:World) (a:Option Addr) (n c n' c':Nat),(binOp .eql 24 (.slice a n c) (.slice none n' c')).run Tryz.prog w=.ok (.bool a.isNone) w:=fun w a n c n' c'=>Lib.run_eql_slice_nil w _ _ a n c n' c' Tryz.underlying24
 have HR:=Aa hr;have H1:=Aa h1;have HN:=Aa hn;clear hr h1 hn;rcases A with _|ad
 ·have hn0:n=0:=by
   rcases Nat.eq_zero_or_pos n with h|h
   ·exact h
   ·obtain⟨b,off,e,_⟩:=HR.out.2 h;cases e
  subst hn0;have hx:xs=[]:=List.eq_nil_of_length_eq_zero (by simpa using HR.out.1);subst hx;go_enter Tryz.func97,Tryz.ntmps97;go_wp2;go_ret;exact⟨_,rfl,Di _ _ _ _,Fr.refl _ _⟩
 ·have HR2:Hid (∃ B,Reads (w.alloc (.cells #[] 96)) B 2 (some ad) n xs):=Aa (by
   rcases Nat.eq_zero_or_pos n with h|h
   ·subst h;have hx:xs=[]:=List.eq_nil_of_length_eq_zero (by simpa using HR.out.1);subst hx;exact⟨0,Reads.none_⟩
   ·obtain⟨b,off,e,hb,hc⟩:=HR.out.2 h;have hb0:b<w.heap.size:=by
     have hl:0<xs.length:=by rw[HR.out.1];exact Nat.mul_pos h (by decide)
     have:=hc 0 xs[0] (List.getElem?_eq_getElem hl);rcases Nat.lt_or_ge b w.heap.size with hlt|hge
     ·exact hlt
     ·rw[Nat.add_zero] at this;simp[World.cell?,Array.getElem?_eq_none hge] at this
    exact⟨B,HR.out.1,fun _=>⟨b,off,e,hb,fun j u hu=>(World.cell?_alloc_lt w _ _ hb0).trans (hc j u hu)⟩⟩)
  have hOE:(w.alloc (.cells #[] 96)).ownsRow w.heap.size 96 2 (.slice (some ⟨w.heap.size,0,none⟩) 0 0) 0 []:=Hl (Blk.new _ _ _) Ad;have HOE:=Aa hOE;clear hOE;obtain⟨B2,hR2⟩:=HR2.out;have HR3:=Aa hR2;clear hR2 HR2 HR;go_enter Tryz.func97,Tryz.ntmps97;go_wp2_with (at_builtin;refine Br _ rfl (.tmp 5) (.tmp 6) _ rfl w.heap.size 96 i0 _ 2 16 Tryz.underlying24 hi0 hi1 hi2 hi3 rfl (show 0<2 by decide) (.slice (some ⟨w.heap.size,0,none⟩) 0 0) 0 [] rfl HOE.out B2 _ n _ xs rfl HR3.out H1.out (by have:=HN.out;unfold maxLen;omega) (by have:=HN.out;omega) (by simp) ?_;intro v' w' ho hg _)
  go_ret;refine⟨_,rfl,by simpa using ho,Ds ((Fr.refl _ w).alloc _) hg (fun g e=>?_)⟩;simp only[Value.ownBlock,Option.some.injEq] at e;omega
theorem Cx {W:World} {B size n:Nat} {t:TypeId} {xs:List Value} (hl:xs.length=n*size) (hB:B≤W.heap.size) (hn:n≤maxLen):(W.alloc (.cells xs.toArray t)).ownsRow B t size (.slice (some ⟨W.heap.size,0,none⟩) n n) n xs :=
 ⟨hl,.inr ⟨W.heap.size,n,xs.toArray,rfl,hB,Blk.new _ _ _,Ad,hn,by simpa using hl,by simp[←hl]⟩⟩
theorem Kc {W:World} {B size n m:Nat} {t:TypeId} {v u:Value} {xs:List Value} (h:W.ownsRow B t size v n xs) (hu:u=.slice (some ⟨W.heap.size,0,none⟩) m m):Apart u v:=by
 intro g h1 h2;subst hu;simp only[Value.ownBlock,Option.some.injEq] at h1;have:=(h.lt g h2).2;omega
theorem Cn {W W':World} {B size size' n m:Nat} {t t':TypeId} {v u:Value} {xs ys:List Value} (h:W.ownsRow B t size v n xs) (hu:W'.ownsRow W.heap.size t' size' u m ys):Apart u v:=by
 intro g h1 h2;have:=(h.lt g h2).2;have:=(hu.lt g h1).1;omega
theorem Zar (n:Nat):madeCells #[Value.int .i64 0,.int .i64 0] (n*2)=(pts (List.replicate n (0,0))).toArray:=by
 unfold madeCells;apply Array.toList_inj.1;simp only[Array.toList_map,Array.toList_range]
 induction n with
 | zero=>rfl
 | succ n ih =>
  have happ:pts (List.replicate n ((0:Int),(0:Int))++[(0,0)])=pts (List.replicate n (0,0))++[.int .i64 0,.int .i64 0]:=by simp[pts]
  rw[List.replicate_succ',happ,←ih,show (n+1)*2=n*2+1+1 by omega,List.range_succ,List.range_succ];simp only[List.map_append,List.map_cons,List.map_nil,List.append_assoc,List.cons_append,List.nil_append];have e0:n*2 % 2=0:=by omega
  have e1:(n*2+1) % 2=1:=by omega
  simp[e0,e1]
theorem Ws (n:Nat):madeCells #[Value.int .i64 0] n=(ints (List.replicate n 0)).toArray:=by
 unfold madeCells;apply Array.toList_inj.1;simp only[Array.toList_map,Array.toList_range,ints,List.map_replicate];rw[List.eq_replicate_iff];exact⟨by simp,by intro b hb;simp at hb;obtain⟨a,ha,rfl⟩:=hb;rw[show a % 1=0 by omega];rfl⟩
theorem Gz {P:Program} (t e:TypeId) (i:TypeInfo) (z:Value) (ht:P.underlying t=some (.slice e)) (hi:P.info? e=some i) (hz:i.zero=some z)
  (n:Nat) (hbytes:i.bytes*n≤281474976710656) (h63:n≤9223372036854775807) (w:World) :
  (Instr.makeSlice t (.int .i64 (n:Int)) (.int .i64 (n:Int))).run P w=.ok (.slice (some ⟨w.heap.size,0,none⟩) n n) (w.alloc (.cells (madeCells z.cells (n*i.size)) e)):=by
 have hb:(i.bytes:Int)*(n:Int)≤281474976710656:=by
  have h:((i.bytes*n:Nat):Int)≤281474976710656:=by omega
  rwa [Int.natCast_mul] at h
 have hr:=run_make (P:=P) w t e i z ht hi hz .i64 .i64 n n (by omega) (by omega) hb (by omega);simp only[Int.toNat_natCast] at hr;exact hr
theorem Zaq (n:Nat) (hn:n≤1000000) (w:World):(Instr.makeSlice 28 (.int .i64 (n:Int)) (.int .i64 (n:Int))).run Tryz.prog w=.ok (.slice (some ⟨w.heap.size,0,none⟩) n n) (w.alloc (.cells (pts (List.replicate n (0,0))).toArray 76)):=by
 obtain⟨i,hi,hz0,hz1,hz2⟩:=Dc Xf;have:=Gz (P:=Tryz.prog) 28 76 i _ Tryz.underlying28 hi hz0 n (by rw[hz2];omega) (by omega) w;rw[hz1,show (Value.agg #[.int .i64 0,.int .i64 0]).cells = #[.int .i64 0,.int .i64 0] from rfl,Zar] at this;exact this
theorem Ha (n:Nat) (hn:n≤1000000) (w:World):(Instr.makeSlice 22 (.int .i64 (n:Int)) (.int .i64 (n:Int))).run Tryz.prog w=.ok (.slice (some ⟨w.heap.size,0,none⟩) n n) (w.alloc (.cells (ints (List.replicate n 0)).toArray 3)):=by
 obtain⟨i,hi,hz0,hz1,hz2⟩:=Dc Gb;have:=Gz (P:=Tryz.prog) 22 3 i _ Tryz.underlying22 hi hz0 n (by rw[hz2];omega) (by omega) w;rw[hz1,Nat.mul_one,show (Value.int .i64 0).cells = #[.int .i64 0] from rfl,Ws] at this;exact this
end Go.Proofs.YtnhebmgibiomnaaGreat
