/- Parts of the proof, joined: McB. -/
import Derived.Test.YtnhebmgibiomnaaGreatPb5
set_option linter.unusedVariables false
set_option linter.unusedSimpArgs false
set_option maxRecDepth 100000
set_option maxHeartbeats 8000000
namespace Go.Proofs.YtnhebmgibiomnaaGreat
open Go.RowKit Mc
theorem Qj {P:Program} (w:World) {ops:Array Oper} {o:Oper} {a:Act} {K:Act→World→Prop} {Q:Exit→Act→World→Prop} {E:Prop} (hgd:o.guard=none) (s x:Operand) (t:TypeId)
  (ho:o.op=.call { callee:=.builtin .append,args:=#[s,x],argTypes:=#[t,t] }) (e:TypeId) (i:TypeInfo) (z:Value) (size bytes:Nat) (ht:P.underlying t=some (.slice e)) (hi:P.info? e=some i) (hz:i.zero=some z)
  (hsize:i.size=size) (hby:i.bytes=bytes) (hzs:z.cells.size=size) (hsz:0<size)
  (O:Nat→Prop) (v:Value) (n:Nat) (xs:List Value) (hs:a.eval s=v) (hrow:Row w O e size v n xs)
  (B:Nat) (A:Option Addr) (m c:Nat) (news:List Value) (hx:a.eval x=.slice A m c) (hr:Reads w B size A m news) (h1:∀ u∈news,u.oneCell'=true)
  (h63:n+m≤maxLen) (hbytes:(n+m)*bytes≤140737488355328)
  (h:∀ v' w',Row w' (ext O w w') e size v' (n+m) (xs++news)→w.grownBy w' v.ownBlock→(∀ g,v'.ownBlock=some g→v.ownBlock=some g∨w.heap.size≤g)→K (a.put o.dst v') w') :
  if Region.wanted o (yielded ops a.tmps)=true then Oper.wp P o a w K Q else E:=by
 have hw:Region.wanted o (yielded ops a.tmps)=true:=by simp[Region.wanted,hgd]
 rw[if_pos hw];exact Dm w s x t ho 0 e i z size bytes ht hi hz hsize hby hzs hsz v n xs hs hrow.1 B A m c news hx hr h1 h63 hbytes (Nat.zero_le _)
  fun v' w' h3 h4 h5=>h v' w' ⟨h3,fun g hg=>by
   rcases h5 with h5|h5
   ·exact .inl (hrow.2 g (h5 ▸ hg))
   ·rw[h5] at hg;injection hg with hg;subst hg;exact .inr ⟨Ad,(h3.lt _ h5).2⟩⟩ h4 fun g hg=>by
   rcases h5 with h5|h5
   ·exact .inl (h5 ▸ hg)
   ·rw[h5] at hg;injection hg with hg;exact .inr (by omega)
theorem MaL.pushed {w w1:World} {mb:Nat} {O:Nat→Prop} {L:Lay} {s:St} (h:MaL w mb O L s) {v:Value} {x:Int} (hx:K32 x) (hl:s.stack.length<32)
  (hrow:Row w1 (ext O w w1) 3 1 v (s.stack.length+1) (ints s.stack.reverse++[.int .i64 x])) (hg:w.grownBy w1 L.sk.ownBlock) (hnew:∀ g,v.ownBlock=some g→L.sk.ownBlock=some g∨w.heap.size≤g) :
  (∃ cs,Blk w1 mb 212 cs∧cs.size=50)∧(∃ L',MaL (w1.setCell ⟨mb,40,none⟩ v) mb (ext O w w1) L' { s with stack:=x::s.stack })∧Fr O w (w1.setCell ⟨mb,40,none⟩ v):=by
 have hmb:Blk w1 mb 212 L.cs:=h.blk.grown hg fun e=>h.sk.ne_blk h.blk (by decide) e.symm rfl
 have hz:=hg.size;refine⟨⟨_,hmb,h.c.sz⟩,⟨_,h.stack (u:=v) (l:=x::s.stack) (hmb.set_ 40 v) (h.c.setSk _ _) ?_ hnew ?_ (fun _ h=>.inl h) ?_ (h.ok.stack_ ?_ ?_)⟩,?_⟩
 ·have:=hrow.keep (w':=w1.setCell ⟨mb,40,none⟩ v) (O':=ext O w w1) (fun g hgb=>Below.heap_setCell _ _ _ _ (fun (e:g=mb)=>hrow.ne_blk hmb (by decide) hgb e)) (fun _ h=>h)
  simpa [ints] using this
 ·intro k hk h1 h2;rw[Below.heap_setCell _ _ _ _ h1];exact hg.block k (h.olt k hk) h2
 ·intro k hk;have:=h.ext_lt hz k hk
  simpa [World.setCell] using this
 ·intro y hy;rcases List.mem_cons.1 hy with rfl|hy
  ·exact hx
  ·exact h.ok.stack y hy
 ·simp only[List.length_cons];omega
 ·exact Fr.setCell (⟨hg.os,hg.tape,hg.output,hg.size,fun k hk hs=>hg.block k hk (fun e=>hs (h.sk.2 k e.symm))⟩) (.inl h.mbO) _
def LInv (w:World) (mb:Nat) (O:Nat→Prop) (s:St) (vb:Nat) (vs:List Int) (i:Value) (wx:World):Prop :=
 ∃ (k:Nat) (L':Lay),k≤vs.length∧i=.int .i64 k∧MaL wx mb (ext O w wx) L' { s with stack:=((vs.take k).map k32).reverse++s.stack }∧Blk wx vb 3 (ints vs).toArray∧Fr O w wx
theorem LInv.end_ {w:World} {mb:Nat} {O:Nat→Prop} {s:St} {vs:List Int} {wx:World} {L':Lay} {k:Nat} (h1:k≤vs.length) (h2:¬ (k:Int)<vs.length) (h:MaL wx mb (ext O w wx) L' { s with stack:=((vs.take k).map k32).reverse++s.stack }) (hf:Fr O w wx):MPost w mb O { s with stack:=(vs.map k32).reverse++s.stack } (.returned (.tuple #[])) wx:=by
 rw[List.take_of_length_le (by omega)] at h;exact⟨rfl,⟨_,h⟩,hf⟩
theorem LInv.next {w:World} {mb:Nat} {O:Nat→Prop} {s:St} {vb:Nat} {vs:List Int} {wr w6:World} {L2:Lay} {k:Nat} {x:Int} {o:Obj} {v:Value} (hx:vs[k]?=some x) (hf:Fr O w wr) (hvb:Blk wr vb 3 (ints vs).toArray) (hv:¬ O vb)
  (h:MaL (w6.setCell ⟨mb,40,none⟩ v) mb (ext (ext O w wr) (wr.drew.alloc o) w6) L2 { s with stack:=k32 x::(((vs.take k).map k32).reverse++s.stack) }) (hF:Fr (ext O w wr) (wr.drew.alloc o) (w6.setCell ⟨mb,40,none⟩ v)) (hvw:vb<w.heap.size) :
  LInv w mb O s vb vs (.int .i64 ((k:Int)+1)) (w6.setCell ⟨mb,40,none⟩ v):=by
 have hlt:k<vs.length:=(List.getElem?_eq_some_iff.1 hx).1;have hz:=hF.size;have hz1:=hf.size;simp[World.setCell] at hz;have h1:((vs.take (k+1)).map k32).reverse++s.stack=k32 x::(((vs.take k).map k32).reverse++s.stack):=by
  rw[List.take_add_one,hx];simp
 refine⟨k+1,L2,hlt,by simp,?_,?_,Fr.ext hf ?_⟩
 ·rw[h1];refine h.mono (fun i hi=>?_) (fun i hi=>?_)
  ·rcases hi with(hi|hi)|hi
   ·exact .inl hi
   ·exact .inr ⟨hi.1,by simp[World.setCell];omega⟩
   ·refine .inr ⟨by have:=hi.1;simp at this;omega,by have:=hi.2;simpa [World.setCell] using this⟩
  ·rcases hi with hi|hi
   ·exact h.olt i (.inl (.inl hi))
   ·exact hi.2
 ·have hb1:Blk (wr.drew.alloc o) vb 3 (ints vs).toArray:=hvb.drew.alloc o;exact hF.blk hb1 (fun e=>by rcases e with e|e;exact hv e;omega)
 ·exact((Fr.refl _ wr).drew.alloc o).trans hF
theorem Nl (w:World) (mb:Nat) (O:Nat→Prop) (L:Lay) (s:St) (h:MaL w mb O L s) (vb:Nat) (vs:List Int) (hvb:Blk w vb 3 (ints vs).toArray) (hv:¬ O vb) (hlen:s.stack.length+vs.length≤32) :
  Calls Tryz.prog 167 #[.pointer (some ⟨mb,0,none⟩),.slice (some ⟨vb,0,none⟩) vs.length vs.length] w (MPost w mb O { s with stack:=(vs.map k32).reverse++s.stack }):=by
 obtain⟨i0,hi0,hi1,hi2,hi3⟩:=Dc Gb;have H0:Hid (LInv w mb O s vb vs (.int .i64 0) w):=Aa ⟨0,L,Nat.zero_le _,rfl,by simpa using h.mono (fun _ h=>.inl h) (h.ext_lt Ad),hvb,Fr.refl _ _⟩;have hvbl:=hvb.lt;clear h hvb;go_enter Tryz.func167,Tryz.ntmps167;go_wp2;go_loopw [8] (fun i wr=>LInv w mb O s vb vs i wr) (fun i _=>vs.length-(intOf i).toNat)
 case atStart=>exact H0.out
 case round =>
  clear H0;obtain⟨k,L',hk,rfl,hM,hvb,hfr⟩:=hrel;by_cases hlt:(k:Int)<vs.length
  ·obtain⟨x,hxk⟩:∃ x,vs[k]?=some x:=⟨_,List.getElem?_eq_getElem (by omega)⟩;have d0:=hvb.cell k;simp only[ints,List.getElem?_toArray,List.getElem?_map,hxk,Option.map_some] at d0;have d1:=hvb.lt;have HM:=Aa hM;have HV:=Aa hvb;have HF:=Aa hfr;have HX:=Aa hxk;clear hM hvb hfr hxk;go_wp2_with fail
   have hMd:=HM.out.drew;have hS:wr.drew.cell? ⟨mb,40,none⟩=some L'.sk:=by rw[hMd.blk.cell,hMd.c.c40]
   have hMa:=hMd.alloc (.cells #[.int .i64 (k32 x)] 3);have hS2:(wr.drew.alloc (.cells #[.int .i64 (k32 x)] 3)).cell? ⟨mb,40,none⟩=some L'.sk:=by rw[hMa.blk.cell,hMa.c.c40]
   have hsl:(((vs.take k).map k32).reverse++s.stack).length<32:=by simp;omega
   have HMA:=Aa hMa;have _hmbl:=hMd.blk.lt;clear hMd hMa;refine Gn (fun i=>!([6,7,8,11]:List Nat).contains i) (fun i=>([4]:List Nat).contains i) (fun i=>([6,7]:List Nat).contains i) [0,1,2,3,4,5,6,7,8,9,10,11] (fun w':World=>w'.cell? ⟨mb,40,none⟩=some L'.sk) (by kernel_rfl) (by kernel_rfl) (by kernel_rfl) (by kernel_rfl) ?_
   iterate 4 (refine Ai ?_)
   refine An hS ?_;refine Ai ?_;refine Aq fun K hK=>?_;go_simp
   refine(Ga _ _).mono ?_;rintro e w5 ⟨rfl,rfl⟩;dsimp only;refine hK _ _ (fun _=>hS) ?_;clear hK K;refine Aq fun K hK=>?_;go_simp
   refine hK _ _ (fun _=>hS2) ?_;clear hK K;refine Aq fun K hK=>?_
   refine Qj _ rfl (.tmp 16) (.tmp 19) _ rfl 3 i0 _ 1 8 Tryz.underlying22 hi0 hi1 hi2 hi3 rfl (by decide) _ _ _ _ rfl HMA.out.sk _ _ 1 1 [.int .i64 (k32 x)] rfl (Reads.blk (cs:=[.int .i64 (k32 x)]) (Blk.new _ _ _) 1 1 rfl) (by simp[Value.oneCell']) (by unfold maxLen;simp only;omega) (by simp only;omega) ?_;intro v' w6 hrow hg hnew;obtain⟨Av,nv,cv,hve⟩:∃ A n c,v'=.slice A n c:=by obtain⟨A,c,e,_⟩:=hrow.form;exact⟨A,_,c,e⟩
   obtain⟨⟨cs,hcs,hcz⟩,⟨L2,hM2⟩,hF2⟩:=HMA.out.pushed (Db x) hsl hrow hg hnew;have hR:LInv w mb O s vb vs (.int .i64 ((k:Int)+1)) (w6.setCell ⟨mb,40,none⟩ v'):=LInv.next HX.out HF.out HV.out hv hM2 hF2 hvbl;have HR:=Aa hR;obtain⟨u40,hu40⟩:∃ u,cs[40]?=some u:=⟨_,Array.getElem?_eq_getElem (by omega)⟩;have e0:=hcs.cell 40;rw[hu40] at e0;have e1:=hcs.frozen 40;have e2:=hcs.lt;clear hM2 hF2 hR hcs hrow hu40 hg hnew;subst hve;refine Aj hK ?_;clear hK K;refine Ai ?_;refine Ai ?_;refine Aq fun K hK=>?_;go_simp
   refine Aj hK ?_;clear hK K;refine Ah ?_;go_wp2;go_roundw
   case rel=>exact HR.out
   case measure=>simp[intOf];omega
  ·go_wp2;go_end0;exact LInv.end_ hk (by omega) hM hfr
end Go.Proofs.YtnhebmgibiomnaaGreat
namespace Go.Proofs.YtnhebmgibiomnaaGreat
open Go.RowKit Mc
end Go.Proofs.YtnhebmgibiomnaaGreat
namespace Go.Proofs.YtnhebmgibiomnaaGreat
open Go.RowKit Mc
section
variable {w w1 w2 : World} {O S : Nat → Prop} {mb : Nat} {L : Lay} {s : St} {e : Ending}
theorem Fr.new (h:Fr O w w1) (k:Fr S w1 w2) (hS:∀ i,i<w.heap.size→S i→O i):Fr O w w2 :=
 ⟨k.os.trans h.os,k.tape.trans h.tape,k.output.trans h.output,Nat.le_trans h.size k.size,fun i hi hs=>(k.block i (Nat.lt_of_lt_of_le hi h.size) (fun a=>hs (hS i hi a))).trans (h.block i hi hs)⟩
theorem MPost.from_ (h:Fr O w w1) (k:MPost w1 mb O s e w2):MPost w mb O s e w2:=by
 obtain⟨he,⟨L,hL⟩,hf⟩:=k;have hz:=h.size;refine⟨he,⟨L,hL.mono (fun i hi=>?_) (fun i hi=>?_)⟩,h.trans hf⟩
 ·rcases hi with hi|hi
  ·exact .inl hi
  ·exact .inr ⟨by omega,hi.2⟩
 ·rcases hi with hi|hi
  ·exact hL.olt i (.inl hi)
  ·exact hi.2
theorem MPost.here (h:MaL w1 mb O L s) (hf:Fr O w w1):MPost w mb O s (.returned (.tuple #[])) w1 :=
 ⟨rfl,⟨L,h.mono (fun _ h=>.inl h) (fun k hk=>by rcases hk with hk|hk;exact h.olt k hk;exact hk.2)⟩,hf⟩
theorem MaL.notO (h:MaL w mb O L s) {k:Nat} (hk:w.heap.size≤k):¬ O k:=fun e=>by have:=h.olt k e;omega
end
structure Took (w:World) (mb:Nat) (O:Nat→Prop) (s:St) (r:List Int) (n:Nat) (w':World):Prop where
 ma:∃ L',MaL w' mb O L' { s with stack:=r }
 fr:Fr O w w'
 lt:w.heap.size+n<w'.heap.size
 old:∀ g t cs,t≠212→Blk w g t cs→Blk w' g t cs
 cell:∀ i,i≠40→w'.cell? ⟨mb,i,none⟩=w.cell? ⟨mb,i,none⟩
theorem Ce (w:World) (mb:Nat) (O:Nat→Prop) (L:Lay) (s:St) (h:MaL w mb O L s) (x:Int) (r:List Int) (hs:s.stack=x::r) (u:Value) :
  Calls Tryz.prog 169 #[.pointer (some ⟨mb,0,none⟩),.slice (some ⟨w.heap.size+1,0,none⟩) 1 1] ((w.alloc (.cells #[u] 3)).alloc (.cells #[.pointer (some ⟨w.heap.size,0,none⟩)] 246)) fun e w'=>e=.returned (.tuple #[])∧Took w mb O s r 1 w'∧Blk w' w.heap.size 3 #[.int .i64 x]:=by
 have hm:MaL ((w.alloc (.cells #[u] 3)).alloc (.cells #[.pointer (some ⟨w.heap.size,0,none⟩)] 246)) mb O L s:=(h.alloc _).alloc _;have hb:Blk ((w.alloc (.cells #[u] 3)).alloc (.cells #[.pointer (some ⟨w.heap.size,0,none⟩)] 246)) w.heap.size 3 #[u]:=(Blk.new _ _ _).alloc _;have hsb:Blk ((w.alloc (.cells #[u] 3)).alloc (.cells #[.pointer (some ⟨w.heap.size,0,none⟩)] 246)) (w.heap.size+1) 246 #[.pointer (some ⟨w.heap.size,0,none⟩)]:=Blk.new_at _ _ _ (by simp);refine(Us _ mb O L s hm x r hs w.heap.size _ _ hb hsb (h.notO Ad)).mono ?_;rintro e w' ⟨rfl,h1,h2,h3,v,h4⟩;refine⟨rfl,⟨h1,?_,?_,?_,?_⟩,h2⟩
 ·refine Fr.new (((Fr.refl O w).alloc _).alloc _) h3 (fun i hi hk=>?_);rcases hk with hk|hk
  ·exact hk
  ·omega
 ·have:=h3.size;simp at this;omega
 ·intro g t cs ht hg;subst h4;have hl:=hg.lt;exact(((hg.alloc _).alloc _).far (p:=⟨w.heap.size,0,none⟩) (by simp only;omega) _).far (p:=⟨mb,40,none⟩) (hg.ne_ h.blk ht) _
 ·intro i hi;subst h4;have hl:=h.blk.lt;rw[World.cell?_setCell_other _ _ _ _ (fun e=>by injection e with _ e;exact hi e.symm),World.cell?_setCell_other _ _ _ _ (fun e=>by injection e with e;omega),World.cell?_alloc_lt _ _ _ (by simp;omega),World.cell?_alloc_lt _ _ _ (by simp;omega)]
theorem Cd (w:World) (mb:Nat) (O:Nat→Prop) (L:Lay) (s:St) (h:MaL w mb O L s) (x y:Int) (r:List Int) (hs:s.stack=y::x::r) (u u':Value) :
  Calls Tryz.prog 169 #[.pointer (some ⟨mb,0,none⟩),.slice (some ⟨w.heap.size+1+1,0,none⟩) 2 2] (((w.alloc (.cells #[u] 3)).alloc (.cells #[u'] 3)).alloc (.cells #[.pointer (some ⟨w.heap.size,0,none⟩),.pointer (some ⟨w.heap.size+1,0,none⟩)] 246)) fun e w'=>e=.returned (.tuple #[])∧Took w mb O s r 2 w'∧Blk w' w.heap.size 3 #[.int .i64 x]∧Blk w' (w.heap.size+1) 3 #[.int .i64 y]:=by
 have hm:MaL (((w.alloc (.cells #[u] 3)).alloc (.cells #[u'] 3)).alloc (.cells #[.pointer (some ⟨w.heap.size,0,none⟩),.pointer (some ⟨w.heap.size+1,0,none⟩)] 246)) mb O L s:=((h.alloc _).alloc _).alloc _;have hb:Blk (((w.alloc (.cells #[u] 3)).alloc (.cells #[u'] 3)).alloc (.cells #[.pointer (some ⟨w.heap.size,0,none⟩),.pointer (some ⟨w.heap.size+1,0,none⟩)] 246)) w.heap.size 3 #[u]:=((Blk.new _ _ _).alloc _).alloc _;have hb2:Blk (((w.alloc (.cells #[u] 3)).alloc (.cells #[u'] 3)).alloc (.cells #[.pointer (some ⟨w.heap.size,0,none⟩),.pointer (some ⟨w.heap.size+1,0,none⟩)] 246)) (w.heap.size+1) 3 #[u']:=(Blk.new_at _ _ _ (by simp)).alloc _;have hsb:Blk (((w.alloc (.cells #[u] 3)).alloc (.cells #[u'] 3)).alloc (.cells #[.pointer (some ⟨w.heap.size,0,none⟩),.pointer (some ⟨w.heap.size+1,0,none⟩)] 246)) (w.heap.size+1+1) 246 #[.pointer (some ⟨w.heap.size,0,none⟩),.pointer (some ⟨w.heap.size+1,0,none⟩)]:=Blk.new_at _ _ _ (by simp);refine(Ur _ mb O L s hm y x r hs w.heap.size (w.heap.size+1) _ _ _ hb hb2 (by omega) hsb (h.notO Ad) (h.notO (by omega))).mono ?_;rintro e w' ⟨rfl,h1,h2,h2',h3,v,h4⟩;refine⟨rfl,⟨h1,?_,?_,?_,?_⟩,h2,h2'⟩
 ·refine Fr.new ((((Fr.refl O w).alloc _).alloc _).alloc _) h3 (fun i hi hk=>?_);rcases hk with hk|hk|hk
  ·exact hk
  ·omega
  ·omega
 ·have:=h3.size;simp at this;omega
 ·intro g t cs ht hg;subst h4;have hl:=hg.lt;exact(((((hg.alloc _).alloc _).alloc _).far (p:=⟨w.heap.size,0,none⟩) (by simp only;omega) _).far (p:=⟨w.heap.size+1,0,none⟩) (by simp only;omega) _).far (p:=⟨mb,40,none⟩) (hg.ne_ h.blk ht) _
 ·intro i hi;subst h4;have hl:=h.blk.lt;rw[World.cell?_setCell_other _ _ _ _ (fun e=>by injection e with _ e;exact hi e.symm),World.cell?_setCell_other _ _ _ _ (fun e=>by injection e with e;omega),World.cell?_setCell_other _ _ _ _ (fun e=>by injection e with e;omega),World.cell?_alloc_lt _ _ _ (by simp;omega),World.cell?_alloc_lt _ _ _ (by simp;omega),World.cell?_alloc_lt _ _ _ (by simp;omega)]
theorem Cj (w:World) (mb:Nat) (O:Nat→Prop) (L:Lay) (s:St) (h:MaL w mb O L s) (v:Int) (hl:s.stack.length<32) :
  Calls Tryz.prog 167 #[.pointer (some ⟨mb,0,none⟩),.slice (some ⟨w.heap.size,0,none⟩) 1 1] (w.alloc (.cells #[.int .i64 v] 3)) (MPost w mb O (push v s)) :=
 (Nl _ mb O L s (h.alloc _) _ [v] (Blk.new _ _ _) (h.notO Ad) (by simp;omega)).mono fun _ _ hp=>hp.from_ ((Fr.refl O w).alloc _)
theorem Kz (w:World) (mb:Nat) (O:Nat→Prop) (L:Lay) (s:St) (h:MaL w mb O L s) (v v':Int) (hl:s.stack.length<31) :
  Calls Tryz.prog 167 #[.pointer (some ⟨mb,0,none⟩),.slice (some ⟨w.heap.size,0,none⟩) 2 2] (w.alloc (.cells #[.int .i64 v,.int .i64 v'] 3)) (MPost w mb O (push v' (push v s))) :=
 (Nl _ mb O L s (h.alloc _) _ [v,v'] (Blk.new _ _ _) (h.notO Ad) (by simp;omega)).mono fun _ _ hp=>hp.from_ ((Fr.refl O w).alloc _)
theorem Vt (w:World) (mb:Nat) (O:Nat→Prop) (L:Lay) (s:St) (h:MaL w mb O L s) (a:Int) (hl:s.stack.length<32) :
  Calls Tryz.prog 166 #[.pointer (some ⟨mb,0,none⟩),.int .i64 a] w (MPost w mb O (push a s)):=by
 have H:=Aa h;clear h;go_enter Tryz.func166,Tryz.ntmps166;go_wp2_with fail
 refine(Cj w mb O L s H.out a hl).mono ?_;intro e w9 hp;have HP:=Aa hp;obtain⟨rfl,_⟩:=hp;go_wp2;go_end0;exact HP.out
theorem Uy (w:World) (mb:Nat) (O:Nat→Prop) (L:Lay) (s:St) (h:MaL w mb O L s) (a:Int) (hl:s.stack.length<32) :
  Calls Tryz.prog 223 #[.pointer (some ⟨mb,0,none⟩),.int .i64 a] w (MPost w mb O (push s.size s)):=by
 have c41:=h.blk.cell 41;rw[h.c.c41] at c41;have H:=Aa h;clear h;go_enter Tryz.func223,Tryz.ntmps223;go_wp2_with fail
 refine(Cj w mb O L s H.out _ hl).mono ?_;intro e w9 hp;have HP:=Aa hp;obtain⟨rfl,_⟩:=hp;go_wp2;go_end0;exact HP.out
theorem Zag (w:World) (mb:Nat) (O:Nat→Prop) (L:Lay) (s:St) (h:MaL w mb O L s) (a x:Int) (r:List Int) (hs:s.stack=x::r) :
  Calls Tryz.prog 168 #[.pointer (some ⟨mb,0,none⟩),.int .i64 a] w (MPost w mb O { s with stack:=r }):=by
 have H:=Aa h;have HS:=Aa hs;clear h hs;go_enter Tryz.func168,Tryz.ntmps168;go_wp2_with fail
 refine(Ce w mb O L s H.out x r HS.out _).mono ?_;rintro e w' ⟨rfl,ht,_⟩;have HT:=Aa ht;clear ht;go_wp2;go_end0;obtain⟨L',hL⟩:=HT.out.ma;exact .here hL HT.out.fr
theorem Zbh (w:World) (mb:Nat) (O:Nat→Prop) (L:Lay) (s:St) (h:MaL w mb O L s) (a x:Int) (r:List Int) (hs:s.stack=x::r) (hl:s.stack.length<32) :
  Calls Tryz.prog 170 #[.pointer (some ⟨mb,0,none⟩),.int .i64 a] w (MPost w mb O (push x (push x { s with stack:=r }))):=by
 have H:=Aa h;have HS:=Aa hs;rw[hs,List.length_cons] at hl;clear h hs;go_enter Tryz.func170,Tryz.ntmps170;go_wp2_with fail
 refine(Ce w mb O L s H.out x r HS.out _).mono ?_;rintro e w' ⟨rfl,ht,hb1⟩;obtain⟨L',hM⟩:=ht.ma;have HM:=Aa hM;have HT:=Aa ht;have hlt:=ht.lt;have b1:=hb1.cell 0;have b1l:=hb1.lt;have b1f:=hb1.frozen 0;simp only[List.getElem?_toArray,List.getElem?_cons_zero] at b1;clear ht hM hb1;go_wp2_with fail
 refine(Kz w' mb O L' _ HM.out x x (by simp only;omega)).mono ?_;intro e w9 hp;have HP:=Aa (hp.from_ HT.out.fr);obtain⟨rfl,_⟩:=hp;go_wp2;go_end0;exact HP.out
theorem Ut (w:World) (mb:Nat) (O:Nat→Prop) (L:Lay) (s:St) (h:MaL w mb O L s) (a x y:Int) (r:List Int) (hs:s.stack=y::x::r) :
  Calls Tryz.prog 171 #[.pointer (some ⟨mb,0,none⟩),.int .i64 a] w (MPost w mb O (push x (push y { s with stack:=r }))):=by
 have H:=Aa h;have HS:=Aa hs;have hl:=h.ok.slen;rw[hs,List.length_cons,List.length_cons] at hl;clear h hs;go_enter Tryz.func171,Tryz.ntmps171;go_wp2_with fail
 refine(Cd w mb O L s H.out x y r HS.out _ _).mono ?_;rintro e w' ⟨rfl,ht,hb1,hb2⟩;obtain⟨L',hM⟩:=ht.ma;have HM:=Aa hM;have HT:=Aa ht;have hlt:=ht.lt;have b1:=hb1.cell 0;have b1l:=hb1.lt;have b1f:=hb1.frozen 0;have b2:=hb2.cell 0;have b2l:=hb2.lt;have b2f:=hb2.frozen 0;simp only[List.getElem?_toArray,List.getElem?_cons_zero] at b1 b2;clear ht hM hb1 hb2;go_wp2_with fail
 refine(Kz w' mb O L' _ HM.out y x (by simp only;omega)).mono ?_;intro e w9 hp;have HP:=Aa (hp.from_ HT.out.fr);obtain⟨rfl,_⟩:=hp;go_wp2;go_end0;exact HP.out
theorem Dv (w:World) (mb:Nat) (O:Nat→Prop) (L:Lay) (s:St) (h:MaL w mb O L s) (a x y:Int) (r:List Int) (hs:s.stack=y::x::r) (fb f:Nat) (hfb:Blk w fb 74 #[.func (.func f) #[] #[]]) (v:Int) (hin:∀ args w,Sem.run Tryz.prog (callFunc f args) w=.ok (.enter f args) w)
  (hf:∀ w,K32 x→K32 y→Calls Tryz.prog f #[.int .i64 x,.int .i64 y] w fun e w'=>e=.returned (.int .i64 v)∧w=w') :
  Calls Tryz.prog 250 #[.pointer (some ⟨mb,0,none⟩),.int .i64 a,.pointer (some ⟨fb,0,none⟩)] w (MPost w mb O (push v { s with stack:=r })):=by
 have H:=Aa h;have HS:=Aa hs;have hx:=h.ok.stack x (by rw[hs];simp);have hy:=h.ok.stack y (by rw[hs];simp);have HF:=Aa fun w=>hf w hx hy
 have HB:=Aa hfb;have hl:=h.ok.slen;rw[hs,List.length_cons,List.length_cons] at hl;clear h hs hfb hf hx hy;go_enter Tryz.func250,Tryz.ntmps250;go_wp2_with fail
 refine(Cd w mb O L s H.out x y r HS.out _ _).mono ?_;rintro e w' ⟨rfl,ht,hb1,hb2⟩;obtain⟨L',hM⟩:=ht.ma;have HM:=Aa hM;have HT:=Aa ht;have hlt:=ht.lt;have b1:=hb1.cell 0;have b1l:=hb1.lt;have b1f:=hb1.frozen 0;have b2:=hb2.cell 0;have b2l:=hb2.lt;have b2f:=hb2.frozen 0;simp only[List.getElem?_toArray,List.getElem?_cons_zero] at b1 b2;clear ht hM hb1 hb2;have c0:=Ab ((HT.out.old _ _ _ (by decide) HB.out)) 0 rfl;go_wp2_with fail
 refine(HF.out _).mono ?_;rintro e w6 ⟨rfl,rfl⟩;go_wp2_with fail
 refine(Cj w' mb O L' _ HM.out v (by simp only;omega)).mono ?_;intro e w9 hp;have HP:=Aa (hp.from_ HT.out.fr);obtain⟨rfl,_⟩:=hp;go_wp2;go_end0;exact HP.out
theorem Ji (w:World) (mb:Nat) (O:Nat→Prop) (L:Lay) (s:St) (h:MaL w mb O L s) (a x:Int) (r:List Int) (hs:s.stack=x::r) (fb f:Nat) (hfb:Blk w fb 117 #[.func (.func f) #[] #[]]) (v:Int) (hin:∀ args w,Sem.run Tryz.prog (callFunc f args) w=.ok (.enter f args) w)
  (hf:∀ w,K32 x→Calls Tryz.prog f #[.int .i64 x] w fun e w'=>e=.returned (.int .i64 v)∧w=w') :
  Calls Tryz.prog 251 #[.pointer (some ⟨mb,0,none⟩),.int .i64 a,.pointer (some ⟨fb,0,none⟩)] w (MPost w mb O (push v { s with stack:=r })):=by
 have H:=Aa h;have HS:=Aa hs;have hx:=h.ok.stack x (by rw[hs];simp);have HF:=Aa fun w=>hf w hx
 have HB:=Aa hfb;have hl:=h.ok.slen;rw[hs,List.length_cons] at hl;clear h hs hfb hf hx;go_enter Tryz.func251,Tryz.ntmps251;go_wp2_with fail
 refine(Ce w mb O L s H.out x r HS.out _).mono ?_;rintro e w' ⟨rfl,ht,hb1⟩;obtain⟨L',hM⟩:=ht.ma;have HM:=Aa hM;have HT:=Aa ht;have hlt:=ht.lt;have b1:=hb1.cell 0;have b1l:=hb1.lt;have b1f:=hb1.frozen 0;simp only[List.getElem?_toArray,List.getElem?_cons_zero] at b1;clear ht hM hb1;have c0:=Ab ((HT.out.old _ _ _ (by decide) HB.out)) 0 rfl;go_wp2_with fail
 refine(HF.out _).mono ?_;rintro e w6 ⟨rfl,rfl⟩;go_wp2_with fail
 refine(Cj w' mb O L' _ HM.out v (by simp only;omega)).mono ?_;intro e w9 hp;have HP:=Aa (hp.from_ HT.out.fr);obtain⟨rfl,_⟩:=hp;go_wp2;go_end0;exact HP.out
end Go.Proofs.YtnhebmgibiomnaaGreat
namespace Go.Proofs.YtnhebmgibiomnaaGreat
open Go.RowKit Mc
theorem Df (mode n:Int) (w:World):Calls Tryz.prog 117 #[.int .i64 mode,.int .i64 n] w fun e w'=>e=.returned (.int .i64 (Bp mode n))∧w=w':=by
 obtain⟨k1,k2⟩:=Db n;have m0:=Int.emod_nonneg mode (show (6:Int)≠0 by omega);have m1:=Int.emod_lt_of_pos mode (show (0:Int)<6 by omega);have hr:Bp mode n=k32 (if mode % 6=1 then(k32 n+32) / 64*64 else if mode % 6=2 then k32 n / 64*64+32 else if mode % 6=3 then(k32 n+16) / 32*32 else if mode % 6=4 then k32 n / 64*64 else if mode % 6=5 then(k32 n+63) / 64*64 else k32 n):=rfl;have HR:=Aa hr;clear hr;generalize hk:k32 n=k at *;have HK:=Aa hk;clear hk;generalize hm:mode % 6=m at *;have HM:=Aa hm;clear hm;have h:m=0∨m=1∨m=2∨m=3∨m=4∨m=5:=by omega
 rcases h with rfl|rfl|rfl|rfl|rfl|rfl
 all_goals
  clear m0 m1;go_enter Tryz.func117,Tryz.ntmps117;go_wp2_with fail
  refine(Ga n _).mono ?_;rintro e w1 ⟨rfl,rfl⟩;rw[HK.out];go_wp2_with fail
  refine(Na mode 6 _ (by decide) (by decide)).mono ?_;rintro e w1 ⟨rfl,rfl⟩;rw[HM.out];go_wp2_with fail
  refine(Ga _ _).mono ?_;rintro e w1 ⟨rfl,rfl⟩;go_wp2;go_ret;rw[HR.out];refine⟨Bi ?_,rfl⟩
  first|rfl|simp
theorem Zca {x y:Int} (hx : -2147483648≤x∧x≤2147483647) (hy : -2147483648≤y∧y≤2147483647):RowKit.wrap64 (x*y)=x*y:=by
 refine IntWalk.wrap64_in _ ?_;have h1:x*y≤4611686018427387904:=by
  rcases Int.le_total 0 x with h|h <;> rcases Int.le_total 0 y with h'|h'
  ·have:=Int.mul_le_mul (show x≤2147483648 by omega) (show y≤2147483648 by omega) h' (by omega);omega
  ·have:=Int.mul_nonpos_of_nonneg_of_nonpos h h';omega
  ·have:=Int.mul_nonpos_of_nonpos_of_nonneg h h';omega
  ·have:=Int.mul_le_mul (show -x≤2147483648 by omega) (show -y≤2147483648 by omega) (by omega) (by omega);rw[Int.neg_mul_neg] at this;omega
 have h2 : -4611686018427387904≤x*y:=by
  rcases Int.le_total 0 x with h|h <;> rcases Int.le_total 0 y with h'|h'
  ·have:=Int.mul_nonneg h h';omega
  ·have:=Int.mul_le_mul (show x≤2147483648 by omega) (show -y≤2147483648 by omega) (by omega) (by omega);rw[Int.mul_neg] at this;omega
  ·have:=Int.mul_le_mul (show -x≤2147483648 by omega) (show y≤2147483648 by omega) (by omega) (by omega);rw[Int.neg_mul] at this;omega
  ·have:=Int.mul_nonneg_of_nonpos_of_nonpos h h';omega
 omega
theorem Xx {a b:Int} (h1 : -1000000000000≤a) (h2:a≤1000000000000) : -1000000000000≤divd a b∧divd a b≤1000000000000:=by
 unfold divd;split
 ·omega
 ·rename_i hb;have key:∀ a b:Int,-1000000000000≤a→a≤1000000000000→0<b→-1000000000000≤a / b∧a / b≤1000000000000:=fun a b h1 h2 hb =>
   ⟨Int.le_ediv_of_mul_le hb (by omega),Int.ediv_le_of_le_mul hb (by omega)⟩
  rcases Int.lt_or_gt_of_ne hb with hb|hb
  ·rw[←Int.neg_fdiv_neg,Int.fdiv_eq_ediv_of_nonneg _ (by omega)];exact key _ _ (by omega) (by omega) (by omega)
  ·rw[Int.fdiv_eq_ediv_of_nonneg _ (by omega)];exact key _ _ h1 h2 hb
theorem Gf {a:Int} (h1 : -9223372036854775808≤a) (h2:a≤9223372036854775807):w64 a=a:=by unfold w64;omega
theorem d5 (x y:Int) (w:World) (hx:K32 x) (hy:K32 y):Calls Tryz.prog 173 #[.int .i64 x,.int .i64 y] w fun e w'=>e=.returned (.int .i64 (x+y))∧w=w':=by
 unfold K32 at hx hy;go_enter Tryz.func173,Tryz.ntmps173;go_wp2;go_ret;exact⟨rfl,rfl⟩
theorem d6 (x y:Int) (w:World) (hx:K32 x) (hy:K32 y):Calls Tryz.prog 174 #[.int .i64 x,.int .i64 y] w fun e w'=>e=.returned (.int .i64 (x-y))∧w=w':=by
 unfold K32 at hx hy;go_enter Tryz.func174,Tryz.ntmps174;go_wp2;go_ret;exact⟨rfl,rfl⟩
theorem d7 (x y:Int) (w:World) (hx:K32 x) (hy:K32 y):Calls Tryz.prog 175 #[.int .i64 x,.int .i64 y] w fun e w'=>e=.returned (.int .i64 (k32 (x*y / 64)))∧w=w':=by
 unfold K32 at hx hy;have HM:=Aa (Zca hx hy);go_enter Tryz.func175,Tryz.ntmps175;go_wp2_with fail
 refine(Ct _ _).mono ?_;rintro e w1 ⟨rfl,rfl⟩;go_wp2;go_ret;exact⟨Bi (by rw[HM.out]),rfl⟩
theorem d8 (x y:Int) (w:World) (hx:K32 x) (_hy:K32 y):Calls Tryz.prog 177 #[.int .i64 x,.int .i64 y] w fun e w'=>e=.returned (.int .i64 (k32 (divd (64*x) y)))∧w=w':=by
 unfold K32 at hx _hy;go_enter Tryz.func177,Tryz.ntmps177;go_wp2_with fail
 refine(Gm _ _ _).mono ?_;rintro e w1 ⟨rfl,rfl⟩;go_wp2_with fail
 refine(Ct _ _).mono ?_;rintro e w1 ⟨rfl,rfl⟩;go_wp2;go_ret;have hd:=Xx (a:=64*x) (b:=y) (by omega) (by omega);exact⟨Bi (by rw[Gf (by omega) (by omega)]),rfl⟩
theorem d9 (x:Int) (w:World) (hx:K32 x):Calls Tryz.prog 180 #[.int .i64 x] w fun e w'=>e=.returned (.int .i64 (-x))∧w=w':=by
 unfold K32 at hx;go_enter Tryz.func180,Tryz.ntmps180;go_wp2;go_ret;exact⟨rfl,rfl⟩
theorem d10 (x:Int) (w:World) (hx:K32 x):Calls Tryz.prog 181 #[.int .i64 x] w fun e w'=>e=.returned (.int .i64 (max x (-x)))∧w=w':=by
 unfold K32 at hx;go_enter Tryz.func181,Tryz.ntmps181;go_wp2
 all_goals
  go_ret;exact⟨Bi (by omega),rfl⟩
theorem d11 (x y:Int) (w:World) (_hx:K32 x) (_hy:K32 y):Calls Tryz.prog 182 #[.int .i64 x,.int .i64 y] w fun e w'=>e=.returned (.int .i64 (min x y))∧w=w':=by
 unfold K32 at _hx _hy;go_enter Tryz.func182,Tryz.ntmps182;go_wp2
 all_goals
  go_ret;exact⟨Bi (by omega),rfl⟩
theorem d12 (x y:Int) (w:World) (_hx:K32 x) (_hy:K32 y):Calls Tryz.prog 183 #[.int .i64 x,.int .i64 y] w fun e w'=>e=.returned (.int .i64 (max x y))∧w=w':=by
 unfold K32 at _hx _hy;go_enter Tryz.func183,Tryz.ntmps183;go_wp2
 all_goals
  go_ret;exact⟨Bi (by omega),rfl⟩
theorem d13 (x:Int) (w:World) (_hx:K32 x):Calls Tryz.prog 184 #[.int .i64 x] w fun e w'=>e=.returned (.int .i64 (Bp 4 x))∧w=w':=by
 unfold K32 at _hx;go_enter Tryz.func184,Tryz.ntmps184;go_wp2_with fail
 refine(Df _ _ _).mono ?_;rintro e w1 ⟨rfl,rfl⟩;go_wp2;go_ret;exact⟨rfl,rfl⟩
theorem d14 (x:Int) (w:World) (_hx:K32 x):Calls Tryz.prog 185 #[.int .i64 x] w fun e w'=>e=.returned (.int .i64 (Bp 5 x))∧w=w':=by
 unfold K32 at _hx;go_enter Tryz.func185,Tryz.ntmps185;go_wp2_with fail
 refine(Df _ _ _).mono ?_;rintro e w1 ⟨rfl,rfl⟩;go_wp2;go_ret;exact⟨rfl,rfl⟩
theorem d16 (x y:Int) (w:World) (_hx:K32 x) (_hy:K32 y):Calls Tryz.prog 187 #[.int .i64 x,.int .i64 y] w fun e w'=>e=.returned (.int .i64 (truth (decide (x<y))))∧w=w':=by
 unfold K32 at _hx _hy;go_enter Tryz.func187,Tryz.ntmps187;go_wp2_with fail
 refine(En _ _).mono ?_;rintro e w1 ⟨rfl,rfl⟩;go_wp2;go_ret;exact⟨Bi (by first|rfl|(congr 1;simp)),rfl⟩
theorem d17 (x y:Int) (w:World) (_hx:K32 x) (_hy:K32 y):Calls Tryz.prog 189 #[.int .i64 x,.int .i64 y] w fun e w'=>e=.returned (.int .i64 (truth (decide (x≤y))))∧w=w':=by
 unfold K32 at _hx _hy;go_enter Tryz.func189,Tryz.ntmps189;go_wp2_with fail
 refine(En _ _).mono ?_;rintro e w1 ⟨rfl,rfl⟩;go_wp2;go_ret;exact⟨Bi (by first|rfl|(congr 1;simp)),rfl⟩
theorem d18 (x y:Int) (w:World) (_hx:K32 x) (_hy:K32 y):Calls Tryz.prog 190 #[.int .i64 x,.int .i64 y] w fun e w'=>e=.returned (.int .i64 (truth (decide (x=y))))∧w=w':=by
 unfold K32 at _hx _hy;go_enter Tryz.func190,Tryz.ntmps190;go_wp2_with fail
 refine(En _ _).mono ?_;rintro e w1 ⟨rfl,rfl⟩;go_wp2;go_ret;exact⟨Bi (by first|rfl|(congr 1;simp)),rfl⟩
theorem d19 (x:Int) (w:World) (_hx:K32 x):Calls Tryz.prog 191 #[.int .i64 x] w fun e w'=>e=.returned (.int .i64 (truth (decide (x=0))))∧w=w':=by
 unfold K32 at _hx;go_enter Tryz.func191,Tryz.ntmps191;go_wp2_with fail
 refine(En _ _).mono ?_;rintro e w1 ⟨rfl,rfl⟩;go_wp2;go_ret;exact⟨Bi (by first|rfl|(congr 1;simp)),rfl⟩
theorem d20 (x y:Int) (w:World) (hx:K32 x) (hy:K32 y):Calls Tryz.prog 192 #[.int .i64 x,.int .i64 y] w fun e w'=>e=.returned (.int .i64 (truth (decide (x≠0∧y≠0))))∧w=w':=by
 unfold K32 at hx hy;rcases Decidable.em (x=0) with h|h <;> rcases Decidable.em (y=0) with h'|h'
 all_goals
  have HV:=Aa (show truth (decide (x≠0∧y≠0))=truth (decide (x≠0) && decide (y≠0)) by simp)
  first|subst h|have b1:(x !=0)=true:=by simp[h]
  first|subst h'|have b2:(y !=0)=true:=by simp[h']
  go_enter Tryz.func192,Tryz.ntmps192;go_wp2_with fail
  refine(En _ _).mono ?_;rintro e w1 ⟨rfl,rfl⟩;go_wp2;go_ret;rw[HV.out];refine⟨Bi ?_,rfl⟩
  simp_all
theorem d21 (x y:Int) (w:World) (hx:K32 x) (hy:K32 y):Calls Tryz.prog 193 #[.int .i64 x,.int .i64 y] w fun e w'=>e=.returned (.int .i64 (truth (decide (x≠0∨y≠0))))∧w=w':=by
 unfold K32 at hx hy;rcases Decidable.em (x=0) with h|h <;> rcases Decidable.em (y=0) with h'|h'
 all_goals
  have HV:=Aa (show truth (decide (x≠0∨y≠0))=truth (decide (x≠0) || decide (y≠0)) by simp)
  first|subst h|have b1:(x !=0)=true:=by simp[h]
  first|subst h'|have b2:(y !=0)=true:=by simp[h']
  go_enter Tryz.func193,Tryz.ntmps193;go_wp2_with fail
  refine(En _ _).mono ?_;rintro e w1 ⟨rfl,rfl⟩;go_wp2;go_ret;rw[HV.out];refine⟨Bi ?_,rfl⟩
  simp_all
end Go.Proofs.YtnhebmgibiomnaaGreat
namespace Go.Proofs.YtnhebmgibiomnaaGreat
open Go.RowKit Mc
theorem Sv (w:World) (mb:Nat) (O:Nat→Prop) (L:Lay) (s:St) (h:MaL w mb O L s) (a x:Int) (r:List Int) (hs:s.stack=x::r) :
  Calls Tryz.prog 186 #[.pointer (some ⟨mb,0,none⟩),.int .i64 a] w (MPost w mb O (push (Bp s.mode x) { s with stack:=r })):=by
 have H:=Aa h;have HS:=Aa hs;have hl:=h.ok.slen;rw[hs,List.length_cons] at hl;clear h hs;go_enter Tryz.func186,Tryz.ntmps186;go_wp2_with fail
 refine(Ce w mb O L s H.out x r HS.out _).mono ?_;rintro e w' ⟨rfl,ht,hb1⟩;obtain⟨L',hM⟩:=ht.ma;have HM:=Aa hM;have HT:=Aa ht;have hlt:=ht.lt;have b1:=hb1.cell 0;have b1l:=hb1.lt;have b1f:=hb1.frozen 0;simp only[List.getElem?_toArray,List.getElem?_cons_zero] at b1;clear ht hM hb1;go_wp2_with fail
 have c44:=HM.out.blk.cell 44;rw[HM.out.c.c44] at c44;dsimp only at c44;have hS:w'.drew.cell? ⟨mb,44,none⟩=some (.int .i64 s.mode)∧w'.drew.cell? ⟨w.heap.size,0,none⟩=some (.int .i64 x):=⟨c44,b1⟩;have HMD:=Aa HM.out.drew;have hS2:(w'.drew.alloc (.cells #[.int .i64 (Bp s.mode x)] 3)).cell? ⟨mb,44,none⟩=some (.int .i64 s.mode)∧(w'.drew.alloc (.cells #[.int .i64 (Bp s.mode x)] 3)).cell? ⟨w.heap.size,0,none⟩=some (.int .i64 x):=⟨by rw[World.cell?_alloc_lt _ _ _ (by simpa using HM.out.blk.lt)];exact c44,by rw[World.cell?_alloc_lt _ _ _ (by simpa using b1l)];exact b1⟩;have _hmbl:=HM.out.blk.lt;refine Gn (fun i=>!([6,7,8]:List Nat).contains i) (fun i=>([4,5]:List Nat).contains i) (fun i=>([7,8]:List Nat).contains i) [0,1,2,3,4,5,6,7,8] (fun w':World=>w'.cell? ⟨mb,44,none⟩=some (.int .i64 s.mode)∧w'.cell? ⟨w.heap.size,0,none⟩=some (.int .i64 x)) (by kernel_rfl) (by kernel_rfl) (by kernel_rfl) (by kernel_rfl) ?_
 iterate 4 (refine Ai ?_)
 refine An hS ?_;refine An hS ?_;refine Aq fun K hK=>?_;go_simp
 refine(Df _ _ _).mono ?_;rintro e w5 ⟨rfl,rfl⟩;dsimp only;refine Aj hK ?_;clear hK K;refine Aq fun K hK=>?_;go_simp
 refine hK _ _ (fun _=>hS2) ?_;clear hK K;refine Aq fun K hK=>?_;go_simp
 refine(Cj w'.drew mb O L' _ HMD.out _ (by simp only;omega)).mono ?_;intro e w9 hp;have HP:=Aa (hp.from_ HT.out.fr.drew);obtain⟨rfl,⟨L9,h9⟩,f9⟩:=hp;have c9:=h9.blk.cell 44;rw[h9.c.c44] at c9;have hS9:w9.cell? ⟨mb,44,none⟩=some (.int .i64 s.mode)∧w9.cell? ⟨w.heap.size,0,none⟩=some (.int .i64 x):=⟨c9,(f9.cell (by simpa using b1l) (H.out.notO Ad)).trans b1⟩;clear h9 f9 c9;dsimp only;refine hK _ _ (fun _=>hS9) ?_;clear hK K;refine Ah ?_;go_wp2;go_end0;exact HP.out
section
variable {w : World} {mb : Nat} {O : Nat → Prop} {L : Lay} {s : St}
theorem Mc.Ok.cells_ (h:Ok s) {st:List Int} {lo mo md:Int} {sp pk:Nat} {ed:Bool} {er:Int} (h1:∀ x∈st,K32 x) (h2:st.length=32) (h3:0≤lo∧lo≤1) (h4:0≤mo∧mo≤1) (h5:0≤md∧md≤5) (h6:pk≤32):Ok { s with store:=st,look:=lo,move:=mo,mode:=md,steps:=sp,peak:=pk,ended:=ed,err:=er } :=
 ⟨h.stack,h.slen,h.cvt,h1,h2,h.cur,h.org,h.orgl,h.touch,h.tl,h.size,h3,h4,h5,h6,h.frames,h.flen,h.funcs,h.fnl,h.cont,h.contl,h.curl,h.cvl,h.endl⟩
theorem MaL.set_ (h:MaL w mb O L s) {i:Nat} {u:Value} {st:List Int} {lo mo md:Int} {sp pk:Nat} {ed:Bool} {er:Int} (hc:MaC { L with cs:=L.cs.setIfInBounds i u } { s with store:=st,look:=lo,move:=mo,mode:=md,steps:=sp,peak:=pk,ended:=ed,err:=er }) (hok:Ok { s with store:=st,look:=lo,move:=mo,mode:=md,steps:=sp,peak:=pk,ended:=ed,err:=er }):MaL (w.setCell ⟨mb,i,none⟩ u) mb O { L with cs:=L.cs.setIfInBounds i u } { s with store:=st,look:=lo,move:=mo,mode:=md,steps:=sp,peak:=pk,ended:=ed,err:=er } :=
 h.cells (h.blk.set_ i u) hc (fun _ _ hk _=>Below.heap_setCell _ _ _ _ hk) (fun _ h=>h) (fun k hk=>by have:=h.olt k hk;simpa [World.setCell] using this) hok
theorem MaL.frSet (h:MaL w mb O L s) (i:Nat) (u:Value):Fr O w (w.setCell ⟨mb,i,none⟩ u):=(Fr.refl O w).setCell (.inl h.mbO) _
end
theorem Vy (w:World) (mb:Nat) (O:Nat→Prop) (L:Lay) (s:St) (h:MaL w mb O L s) (a:Int) :
  Calls Tryz.prog 194 #[.pointer (some ⟨mb,0,none⟩),.int .i64 a] w (MPost w mb O { s with look:=a % 2 }):=by
 have hm:=h.set_ (h.c.setLook (a % 2)) (h.ok.cells_ h.ok.store h.ok.stl (by omega) h.ok.move h.ok.mode h.ok.peak);have HP:=Aa (MPost.here hm (h.frSet _ _));have c:=h.blk.cell 42;rw[h.c.c42] at c;have f:=h.blk.frozen 42;clear h hm;go_enter Tryz.func194,Tryz.ntmps194;go_wp2_with fail
 refine(Na _ 2 _ (by decide) (by decide)).mono ?_;rintro e w1 ⟨rfl,rfl⟩;go_wp2;go_end0;exact HP.out
theorem Xr (w:World) (mb:Nat) (O:Nat→Prop) (L:Lay) (s:St) (h:MaL w mb O L s) (a:Int) :
  Calls Tryz.prog 196 #[.pointer (some ⟨mb,0,none⟩),.int .i64 a] w (MPost w mb O { s with move:=a % 2 }):=by
 have hm:=h.set_ (h.c.setMove (a % 2)) (h.ok.cells_ h.ok.store h.ok.stl h.ok.look (by omega) h.ok.mode h.ok.peak);have HP:=Aa (MPost.here hm (h.frSet _ _));have c:=h.blk.cell 43;rw[h.c.c43] at c;have f:=h.blk.frozen 43;clear h hm;go_enter Tryz.func196,Tryz.ntmps196;go_wp2_with fail
 refine(Na _ 2 _ (by decide) (by decide)).mono ?_;rintro e w1 ⟨rfl,rfl⟩;go_wp2;go_end0;exact HP.out
theorem Wn (w:World) (mb:Nat) (O:Nat→Prop) (L:Lay) (s:St) (h:MaL w mb O L s) (a:Int) :
  Calls Tryz.prog 197 #[.pointer (some ⟨mb,0,none⟩),.int .i64 a] w (MPost w mb O { s with mode:=a % 6 }):=by
 have hm:=h.set_ (h.c.setMode (a % 6)) (h.ok.cells_ h.ok.store h.ok.stl h.ok.look h.ok.move (by omega) h.ok.peak);have HP:=Aa (MPost.here hm (h.frSet _ _));have c:=h.blk.cell 44;rw[h.c.c44] at c;have f:=h.blk.frozen 44;clear h hm;go_enter Tryz.func197,Tryz.ntmps197;go_wp2_with fail
 refine(Na _ 6 _ (by decide) (by decide)).mono ?_;rintro e w1 ⟨rfl,rfl⟩;go_wp2;go_end0;exact HP.out
theorem Qs (w:World) (mb:Nat) (O:Nat→Prop) (L:Lay) (s:St) (h:MaL w mb O L s) (x:Int) (r:List Int) (hs:s.stack=x::r) (A:Option Addr) (l:List Int) (c g off:Nat) (hll:l.length≤1000000)
  (hA:0<l.length→A=some ⟨g,off,none⟩) (hrow:∀ w',Took w mb O s r 1 w'→∀ (i:Nat) v,l[i]?=some v→w'.cell? ⟨g,off+i,none⟩=some (.int .i64 v)) :
  Calls Tryz.prog 199 #[.pointer (some ⟨mb,0,none⟩),.slice A l.length c] w (MPost w mb O (push (at_ l x) { s with stack:=r })):=by
 have H:=Aa h;have HS:=Aa hs;have hl:=h.ok.slen;rw[hs,List.length_cons] at hl;have HR:=Aa hrow;clear h hs hrow;by_cases hx:0≤x∧x<l.length
 ·obtain⟨i,rfl⟩:∃ i:Nat,x=i:=⟨x.toNat,by omega⟩;have hil:i<l.length:=by omega
  have HA:=Aa (hA (by omega));obtain⟨v,hv⟩:∃ v,l[i]?=some v:=⟨_,List.getElem?_eq_getElem hil⟩;have HV:=Aa hv;have e:=HA.out;subst e;clear hv hA hx HA;go_enter Tryz.func199,Tryz.ntmps199;go_wp2_with fail
  refine(Ce w mb O L s H.out _ r HS.out _).mono ?_;rintro e w' ⟨rfl,ht,hb1⟩;obtain⟨L',hM⟩:=ht.ma;have HM:=Aa hM;have HT:=Aa ht;have hlt:=ht.lt;have b1:=hb1.cell 0;have b1l:=hb1.lt;have b1f:=hb1.frozen 0;simp only[List.getElem?_toArray,List.getElem?_cons_zero] at b1;clear ht hM hb1;have c0:=HR.out w' HT.out i v HV.out;go_wp2_with fail
  refine(Cj w' mb O L' _ HM.out _ (by simp only;omega)).mono ?_;intro e w9 hp;have HP:=Aa (hp.from_ HT.out.fr);obtain⟨rfl,_⟩:=hp;go_wp2;go_end0;rw[Zce HV.out];exact HP.out
 ·have HX:=Aa hx;have h0:=at_no hx;rw[h0];clear h0 hA;by_cases h0:0≤x
  ·have h1:¬ x<l.length:=fun e=>hx ⟨h0,e⟩
   clear hx;go_enter Tryz.func199,Tryz.ntmps199;go_wp2_with fail
   refine(Ce w mb O L s H.out x r HS.out _).mono ?_;rintro e w' ⟨rfl,ht,hb1⟩;obtain⟨L',hM⟩:=ht.ma;have HM:=Aa hM;have HT:=Aa ht;have hlt:=ht.lt;have b1:=hb1.cell 0;have b1l:=hb1.lt;have b1f:=hb1.frozen 0;simp only[List.getElem?_toArray,List.getElem?_cons_zero] at b1;clear ht hM hb1;go_wp2_with fail
   refine(Cj w' mb O L' _ HM.out _ (by simp only;omega)).mono ?_;intro e w9 hp;have HP:=Aa (hp.from_ HT.out.fr);obtain⟨rfl,_⟩:=hp;go_wp2;go_end0;exact HP.out
  ·clear hx;go_enter Tryz.func199,Tryz.ntmps199;go_wp2_with fail
   refine(Ce w mb O L s H.out x r HS.out _).mono ?_;rintro e w' ⟨rfl,ht,hb1⟩;obtain⟨L',hM⟩:=ht.ma;have HM:=Aa hM;have HT:=Aa ht;have hlt:=ht.lt;have b1:=hb1.cell 0;have b1l:=hb1.lt;have b1f:=hb1.frozen 0;simp only[List.getElem?_toArray,List.getElem?_cons_zero] at b1;clear ht hM hb1;go_wp2_with fail
   refine(Cj w' mb O L' _ HM.out _ (by simp only;omega)).mono ?_;intro e w9 hp;have HP:=Aa (hp.from_ HT.out.fr);obtain⟨rfl,_⟩:=hp;go_wp2;go_end0;exact HP.out
theorem Qg (w:World) (mb:Nat) (O:Nat→Prop) (L:Lay) (s:St) (h:MaL w mb O L s) (x y:Int) (r:List Int) (hs:s.stack=y::x::r) (A:Option Addr) (n c:Nat) (_hll:n≤1000000) (hx:¬ (0≤x∧x<n)) :
  Calls Tryz.prog 201 #[.pointer (some ⟨mb,0,none⟩),.slice A n c] w (MPost w mb O { s with stack:=r }):=by
 have H:=Aa h;have HS:=Aa hs;clear h hs;by_cases h0:0≤x
 ·have h1:¬ x<n:=fun e=>hx ⟨h0,e⟩
  clear hx;go_enter Tryz.func201,Tryz.ntmps201;go_wp2_with fail
  refine(Cd w mb O L s H.out x y r HS.out _ _).mono ?_;rintro e w' ⟨rfl,ht,hb1,hb2⟩;obtain⟨L',hM⟩:=ht.ma;have HM:=Aa hM;have HT:=Aa ht;have hlt:=ht.lt;have b1:=hb1.cell 0;have b1l:=hb1.lt;have b1f:=hb1.frozen 0;have b2:=hb2.cell 0;have b2l:=hb2.lt;have b2f:=hb2.frozen 0;simp only[List.getElem?_toArray,List.getElem?_cons_zero] at b1 b2;clear ht hM hb1 hb2;go_wp2;go_end0;exact .here HM.out HT.out.fr
 ·clear hx;go_enter Tryz.func201,Tryz.ntmps201;go_wp2_with fail
  refine(Cd w mb O L s H.out x y r HS.out _ _).mono ?_;rintro e w' ⟨rfl,ht,hb1,hb2⟩;obtain⟨L',hM⟩:=ht.ma;have HM:=Aa hM;have HT:=Aa ht;have hlt:=ht.lt;have b1:=hb1.cell 0;have b1l:=hb1.lt;have b1f:=hb1.frozen 0;have b2:=hb2.cell 0;have b2l:=hb2.lt;have b2f:=hb2.frozen 0;simp only[List.getElem?_toArray,List.getElem?_cons_zero] at b1 b2;clear ht hM hb1 hb2;go_wp2;go_end0;exact .here HM.out HT.out.fr
theorem Mh (w:World) (mb:Nat) (O:Nat→Prop) (L:Lay) (s s':St) (h:MaL w mb O L s) (i:Nat) (y:Int) (r:List Int) (hs:s.stack=y::(i:Int)::r) (n c g off:Nat) (_hll:n≤1000000) (hi:i<n)
  (hrow:∀ w',Took w mb O s r 2 w'→(∃ L'',MaL (w'.setCell ⟨g,off+i,none⟩ (.int .i64 y)) mb O L'' s'∧Fr O w' (w'.setCell ⟨g,off+i,none⟩ (.int .i64 y)))∧(∃ u,w'.cell? ⟨g,off+i,none⟩=some u)∧w'.frozen? ⟨g,off+i,none⟩=false) :
  Calls Tryz.prog 201 #[.pointer (some ⟨mb,0,none⟩),.slice (some ⟨g,off,none⟩) n c] w (MPost w mb O s'):=by
 have H:=Aa h;have HS:=Aa hs;have HR:=Aa hrow;clear h hs hrow;go_enter Tryz.func201,Tryz.ntmps201;go_wp2_with fail
 refine(Cd w mb O L s H.out i y r HS.out _ _).mono ?_;rintro e w' ⟨rfl,ht,hb1,hb2⟩;obtain⟨L',hM⟩:=ht.ma;have HM:=Aa hM;have HT:=Aa ht;have hlt:=ht.lt;have b1:=hb1.cell 0;have b1l:=hb1.lt;have b1f:=hb1.frozen 0;have b2:=hb2.cell 0;have b2l:=hb2.lt;have b2f:=hb2.frozen 0;simp only[List.getElem?_toArray,List.getElem?_cons_zero] at b1 b2;clear ht hM hb1 hb2;obtain⟨⟨L'',h1⟩,⟨u,h2⟩,h3⟩:=HR.out w' HT.out;have H1:=Aa h1;clear h1;go_wp2;go_end0;exact .here H1.out.1 (HT.out.fr.trans H1.out.2)
end Go.Proofs.YtnhebmgibiomnaaGreat
namespace Go.Proofs.YtnhebmgibiomnaaGreat
open Go.RowKit Mc
section
variable {w w' : World} {mb : Nat} {O : Nat → Prop} {L : Lay} {s : St} {r : List Int} {n : Nat}
theorem Took.row (ht:Took w mb O s r n w') {t:TypeId} (hne:t≠212) {size m:Nat} {v:Value} {xs:List Value} (hr:Row w O t size v m xs):Row w' O t size v m xs :=
 hr.keep (fun g hg=>by obtain⟨_,_,cs,hb⟩:=hr.block hg;exact(ht.old g t cs hne hb).trans hb.symm) (fun _ h=>h)
theorem Took.cv (ht:Took w mb O s r n w') (h:MaL w mb O L s) {L':Lay} (h':MaL w' mb O L' { s with stack:=r }):L'.cv=L.cv:=by
 have:=ht.cell 7 (by decide);rw[h'.blk.cell,h.blk.cell,h'.c.c7,h.c.c7] at this
 injection this
theorem Mc.Ok.cvt_ (h:Ok s) {l:List Int} (h1:∀ x∈l,K32 x) (h2:l.length=s.cvt.length):Ok { s with cvt:=l } :=
 ⟨h.stack,h.slen,h1,h.store,h.stl,h.cur,h.org,h.orgl,h.touch,h.tl,h.size,h.look,h.move,h.mode,h.peak,h.frames,h.flen,h.funcs,h.fnl,h.cont,h.contl,h.curl,by rw[h2];exact h.cvl,h.endl⟩
theorem Row.frSet {t:TypeId} {size m:Nat} {v:Value} {xs:List Value} (hr:Row w O t size v m xs) {g:Nat} (hg:v.ownBlock=some g) (i:Nat) (u:Value):Fr O w (w.setCell ⟨g,i,none⟩ u):=(Fr.refl O w).setCell (.inl (hr.2 g hg)) _
theorem MaL.setCv (h:MaL w mb O L s) {g m c:Nat} (hv:L.cv=.slice (some ⟨g,0,none⟩) m c) {i:Nat} (hi:i<s.cvt.length) {v:Int} (hk:K32 v):MaL (w.setCell ⟨g,i,none⟩ (.int .i64 v)) mb O L { s with cvt:=s.cvt.set i v } := by
 have hob:L.cv.ownBlock=some g:=by rw[hv];rfl
 have hg:g≠mb:=h.cv.ne_blk h.blk (by decide) hob;refine h.cvt_ (by simp) ?_ (Below.heap_setCell _ _ _ _ hg.symm) (fun k _ _ hk=>Below.heap_setCell _ _ _ _ (fun e=>hk (by rw[hob,e]))) (fun _ h=>h) (fun k hk=>by have:=h.olt k hk;simpa [World.setCell] using this) (h.ok.cvt_ (Fl h.ok.cvt hk) (by simp));rw[Dr];exact h.cv.set_ hob (by rw[Bw];exact hi) _
end
theorem Zbl (w:World) (mb:Nat) (O:Nat→Prop) (L:Lay) (s:St) (h:MaL w mb O L s) (a x:Int) (r:List Int) (hs:s.stack=x::r) :
  Calls Tryz.prog 198 #[.pointer (some ⟨mb,0,none⟩),.int .i64 a] w (MPost w mb O (push (at_ s.cvt x) { s with stack:=r })):=by
 obtain⟨A,c,hv,hc1,hc2⟩:=h.cv.form;have c7:=h.blk.cell 7;rw[h.c.c7,hv] at c7;have HR:Hid (∃ g,(0<s.cvt.length→A=some ⟨g,0,none⟩)∧∀ w',Took w mb O s r 1 w'→∀ (i:Nat) v,s.cvt[i]?=some v→w'.cell? ⟨g,0+i,none⟩=some (.int .i64 v)):=by
  by_cases h0:0<s.cvt.length
  ·obtain⟨g,c',hv',_⟩:=h.cv.at_ h0;rw[hv] at hv'
   injection hv' with hv'
   refine Aa ⟨g,fun _=>hv',fun w' ht i v hi=>?_⟩;obtain⟨g2,c2,hv2,_,_,_,_,hc,_⟩:=(ht.row (by decide) h.cv).at_ h0;rw[hv,hv'] at hv2
   injection hv2 with hv2
   injection hv2 with hv2
   injection hv2 with hv2
   subst hv2;rw[Nat.zero_add];exact hc i _ (Bf hi)
  ·exact Aa ⟨0,fun e=>absurd e h0,fun w' _ i v hi=>by have:=(List.getElem?_eq_some_iff.1 hi).1;omega⟩
 have hcl:=Aa h.ok.cvl;have H:=Aa h;have HS:=Aa hs;clear h hs hv hc1 hc2;go_enter Tryz.func198,Tryz.ntmps198;go_wp2_with fail
 obtain⟨g,hA,hrow⟩:=HR.out;refine(Qs w mb O L s H.out x r HS.out A s.cvt c g 0 hcl.out hA hrow).mono ?_;intro e w9 hp;have HP:=Aa hp;obtain⟨rfl,_⟩:=hp;go_wp2;go_end0;exact HP.out
theorem Wv (w:World) (mb:Nat) (O:Nat→Prop) (L:Lay) (s:St) (h:MaL w mb O L s) (a x:Int) (r:List Int) (hs:s.stack=x::r) :
  Calls Tryz.prog 202 #[.pointer (some ⟨mb,0,none⟩),.int .i64 a] w (MPost w mb O (push (at_ s.store x) { s with stack:=r })):=by
 have H:=Aa h;have HS:=Aa hs;have hl:=h.ok.stl;have HL:=Aa hl;clear h hs hl;go_enter Tryz.func202,Tryz.ntmps202;go_wp2_with fail
 have hr:=Qs w mb O L s H.out x r HS.out (some ⟨mb,8,none⟩) s.store 32 mb 8 (by rw[HL.out];decide) (fun _=>rfl) (fun w' ht i v hi=>by obtain⟨L',h'⟩:=ht.ma;rw[h'.blk.cell];exact h'.c.st i v hi);rw[HL.out] at hr;refine hr.mono ?_;clear hr;intro e w9 hp;have HP:=Aa hp;obtain⟨rfl,_⟩:=hp;go_wp2;go_end0;exact HP.out
theorem Ow (w:World) (mb:Nat) (O:Nat→Prop) (L:Lay) (s:St) (h:MaL w mb O L s) (a x y:Int) (r:List Int) (hs:s.stack=y::x::r) :
  Calls Tryz.prog 200 #[.pointer (some ⟨mb,0,none⟩),.int .i64 a] w (MPost w mb O { s with stack:=r,cvt:=Fz s.cvt x y }):=by
 obtain⟨A,c,hv,hc1,hc2⟩:=h.cv.form;have c7:=h.blk.cell 7;rw[h.c.c7,hv] at c7;have hcl:=h.ok.cvl;have HG:Hid (Calls Tryz.prog 201 #[.pointer (some ⟨mb,0,none⟩),.slice A s.cvt.length c] w (MPost w mb O { s with stack:=r,cvt:=Fz s.cvt x y })):=by
  by_cases hx:0≤x∧x<s.cvt.length
  ·obtain⟨i,rfl⟩:∃ i:Nat,x=i:=⟨x.toNat,by omega⟩;have hi:i<s.cvt.length:=by omega
   obtain⟨g,c',hv',_⟩:=h.cv.at_ (by omega);rw[hv] at hv'
   injection hv' with hv'
   subst hv';rw[Lo hi];refine Aa (Mh w mb O L s _ h i y r hs _ c g 0 hcl hi (fun w' ht=>?_));obtain⟨L',h'⟩:=ht.ma;have hrow:=ht.row (by decide) h.cv;obtain⟨g2,c2,hv2,_,_,hO,_,hc,hf⟩:=hrow.at_ (by omega);rw[hv] at hv2
   injection hv2 with hv2
   injection hv2 with hv2
   injection hv2 with hv2
   subst hv2;obtain⟨u,hu⟩:∃ u,s.cvt[i]?=some u:=⟨_,List.getElem?_eq_getElem hi⟩;rw[Nat.zero_add];exact⟨⟨L',h'.setCv ((ht.cv h h').trans hv) hi (h.ok.stack y (by rw[hs];simp)),hrow.frSet (by rw[hv];rfl) _ _⟩,⟨_,hc i _ (Bf hu)⟩,hf i⟩
  ·rw[Qu hx];exact Aa (Qg w mb O L s h x y r hs A _ c hcl hx)
 clear h hs hv hc1 hc2 hcl;go_enter Tryz.func200,Tryz.ntmps200;go_wp2_with fail
 refine HG.out.mono ?_;intro e w9 hp;have HP:=Aa hp;obtain⟨rfl,_⟩:=hp;go_wp2;go_end0;exact HP.out
theorem Vg (w:World) (mb:Nat) (O:Nat→Prop) (L:Lay) (s:St) (h:MaL w mb O L s) (a x y:Int) (r:List Int) (hs:s.stack=y::x::r) :
  Calls Tryz.prog 203 #[.pointer (some ⟨mb,0,none⟩),.int .i64 a] w (MPost w mb O { s with stack:=r,store:=Fz s.store x y }):=by
 have hl:=h.ok.stl;have HG:Hid (Calls Tryz.prog 201 #[.pointer (some ⟨mb,0,none⟩),.slice (some ⟨mb,8,none⟩) 32 32] w (MPost w mb O { s with stack:=r,store:=Fz s.store x y })):=by
  by_cases hx:0≤x∧x<s.store.length
  ·obtain⟨i,rfl⟩:∃ i:Nat,x=i:=⟨x.toNat,by omega⟩;have hi:i<s.store.length:=by omega
   rw[Lo hi];refine Aa (Mh w mb O L s _ h i y r hs 32 32 mb 8 (by decide) (by omega) (fun w' ht=>?_));obtain⟨L',h'⟩:=ht.ma;obtain⟨u,hu⟩:∃ u,s.store[i]?=some u:=⟨_,List.getElem?_eq_getElem hi⟩;exact⟨⟨_,h'.set_ (h'.c.setStore i y (by omega)) (h'.ok.cells_ (Fl h'.ok.store (h.ok.stack y (by rw[hs];simp))) (by simp;exact hl) h'.ok.look h'.ok.move h'.ok.mode h'.ok.peak),h'.frSet _ _⟩,⟨_,by rw[h'.blk.cell];exact h'.c.st i u hu⟩,h'.blk.frozen _⟩
  ·rw[Qu hx];rw[hl] at hx;exact Aa (Qg w mb O L s h x y r hs _ 32 32 (by decide) hx)
 have lmb:=h.blk.lt;clear h hs hl;go_enter Tryz.func203,Tryz.ntmps203;go_wp2_with fail
 refine HG.out.mono ?_;intro e w9 hp;have HP:=Aa hp;obtain⟨rfl,_⟩:=hp;go_wp2;go_end0;exact HP.out
end Go.Proofs.YtnhebmgibiomnaaGreat
