/- Parts of the proof, joined: StP StB. -/
import Derived.Test.YtnhebmgibiomnaaGreatPb30
import Derived.Test.YtnhebmgibiomnaaGreatPb31
set_option linter.unusedVariables false
set_option linter.unusedSimpArgs false
set_option maxRecDepth 100000
set_option maxHeartbeats 8000000
namespace Go.Proofs.YtnhebmgibiomnaaGreat
open Mc
namespace Sr
theorem Jc {code:List Reg} (h:right code=true):1≤code.length∧code.length≤80000∧fitsAll code=true∧0≤(code.getD (code.length-1) nop).n∧(code.getD (code.length-1) nop).n≤64:=by
 have ht:=right_top h;unfold right at h;simp only[Bool.and_eq_true,decide_eq_true_eq] at h;obtain⟨⟨⟨h1,h2⟩,h3⟩,h4⟩:=h;rw[List.getLast?_eq_getElem?] at h4;obtain⟨r,hr,_⟩:=ht;rw[hr] at h4;simp only[decide_eq_true_eq] at h4;exact⟨h1,h2,h3,by rw[List.getD_eq_getElem?_getD,hr];exact h4⟩
theorem Vj {code:List Reg} (hf:fitsAll code=true):∀ (n:Nat) (s:St),s.pc<code.length→s.steps≤s.pc→(runs n code s).steps≤(runs n code s).pc∧(runs n code s).pc<code.length
 | 0,s,h,k=>⟨k,h⟩
 | n+1,s,h,k=>by
  by_cases h42:(code.getD s.pc nop).op=42
  ·rw[runs_end h42];exact⟨k,h⟩
  ·rw[runs_step h42];obtain⟨r,hr⟩:∃ r,code[s.pc]?=some r:=⟨_,List.getElem?_eq_getElem h⟩;rw[List.getD_eq_getElem?_getD,hr,Option.getD_some] at h42;obtain⟨a1,a2,a3,_⟩:=step_in hf hr h42;exact Vj hf n _ a3 (by omega)
theorem deed_regs (r:Reg) (s:St):(deed r s).regs.length=s.regs.length:=by
 unfold deed;split
 all_goals first|rfl|(simp only[put,List.length_set];done)|(simp only[pass];split <;> rfl)|(split <;> rfl)
theorem Mx (code:List Reg):∀ (n:Nat) (s:St),(runs n code s).regs.length=s.regs.length
 | 0,s=>rfl
 | n+1,s=>by
  unfold runs;split
  ·rfl
  ·rw[Mx code n];unfold step;rw[deed_regs]
theorem Zab (code:List Reg) (cvt:List Int) (size:Int) (z:Zn):(run code cvt size z).regs.length=64:=by
 unfold run;rw[Mx];simp[begin_]
theorem Vk {code:List Reg} (h:right code=true) (cvt:List Int) (size:Int) (z:Zn):(run code cvt size z).steps<code.length:=by
 obtain⟨h1,h2,h3,_⟩:=Jc h;obtain⟨a,b⟩:=Vj h3 code.length (begin_ cvt size z) (by show 0<code.length;omega) Ad;unfold run;omega
theorem Kq {code:List Reg} (h:right code=true) (cvt:List Int) (size:Int) (z:Zn):((told (run code cvt size z) (top code)).stack.length:Int)=(code.getD (code.length-1) nop).n:=by
 obtain⟨r,hr,hn,ht⟩:=right_top h;unfold told;simp only[List.length_reverse,List.length_take,Zab];rw[List.getD_eq_getElem?_getD,hr,Option.getD_some];omega
end Sr
end Go.Proofs.YtnhebmgibiomnaaGreat
namespace Go.Proofs.YtnhebmgibiomnaaGreat
open Go.RowKit Mc
def Lg:List (Int×Int):=[(5,0)]
theorem Uw:Bu.build [] Iw=(sumRegs,0):=by kernel_rfl
theorem Yr:Bu.build [] Lg=([],51):=by kernel_rfl
theorem Iv:Sr.right sumRegs=true:=by kernel_rfl
theorem Zj:Sr.right (sumRegs.take 3)=false:=by kernel_rfl
theorem Nh:Sr.right []=false:=by kernel_rfl
theorem Zi:(Sr.told (Sr.run sumRegs [] 0 ⟨[],[],[],[]⟩) (Sr.top sumRegs)).stack=[12]∧(Sr.told (Sr.run sumRegs [] 0 ⟨[],[],[],[]⟩) (Sr.top sumRegs)).steps=3:=⟨by kernel_rfl,by kernel_rfl⟩
structure BtA (w:World) (pb g k:Nat) (X:World):Prop where
 p:Blk X pb 26 #[.slice none 0 0,.slice (some ⟨g,0,none⟩) 3 3,.slice none 0 0,.int .i64 0]
 i:Reads X X.heap.size 2 (some ⟨g,0,none⟩) 3 (Bg Iw)
 r:Reads X X.heap.size 5 (some ⟨k,0,none⟩) 4 (Ba sumRegs)
 b:Below w.heap.size w X
theorem Blk.go {X Y:World} {g:Nat} {t:TypeId} {cs:Array Value} (h:Blk X g t cs) (hb:Below X.heap.size X Y):Blk Y g t cs:=(hb.block g h.lt).trans h
theorem Reads.go {X Y:World} {size:Nat} {A:Option Addr} {n:Nat} {xs:List Value} (h:Reads X X.heap.size size A n xs) (hb:Below X.heap.size X Y):Reads Y Y.heap.size size A n xs:=(h.below hb Ad).more hb.size
theorem Fv (X:World) (o:Obj):Below X.heap.size X (X.alloc o):=aliasBr.alloc Ad _
theorem BtA.go {w:World} {pb g k:Nat} {X Y:World} (h:BtA w pb g k X) (hb:Below X.heap.size X Y):BtA w pb g k Y :=
 ⟨Blk.go h.p hb,Reads.go h.i hb,Reads.go h.r hb,h.b.trans (hb.mono h.b.size)⟩
structure BtR (rb:Nat) (cs:Array Value) (kA ko:Nat) (X:World):Prop where
 blk:Blk X rb 39 cs
 lt:kA<X.heap.size
 at_:X.cell? ⟨kA,ko,none⟩=some (.int .i64 12)
theorem BtR.go {rb:Nat} {cs:Array Value} {kA ko:Nat} {X Y:World} (h:BtR rb cs kA ko X) (hb:Below X.heap.size X Y):BtR rb cs kA ko Y :=
 ⟨Blk.go h.blk hb,by have:=hb.size;have:=h.lt;omega,(hb.cell (p:=⟨kA,ko,none⟩) h.lt).trans h.at_⟩
structure BtE (w:World) (pb g k:Nat) (A:Option Addr) (rb:Nat) (cs:Array Value) (kA ko sb:Nat) (cs':Array Value) (kA' ko' nb:Nat) (cs'':Array Value) (X:World):Prop where
 a:BtA w pb g k X
 v:Reads X X.heap.size 5 A 4 (Ba sumRegs)
 r:BtR rb cs kA ko X
 s:BtR sb cs' kA' ko' X
 n:Blk X nb 39 cs''
theorem BtE.go {w:World} {pb g k:Nat} {A:Option Addr} {rb:Nat} {cs:Array Value} {kA ko sb:Nat} {cs':Array Value} {kA' ko' nb:Nat} {cs'':Array Value} {X Y:World} (h:BtE w pb g k A rb cs kA ko sb cs' kA' ko' nb cs'' X) (hb:Below X.heap.size X Y):BtE w pb g k A rb cs kA ko sb cs' kA' ko' nb cs'' Y :=
 ⟨h.a.go hb,Reads.go h.v hb,h.r.go hb,h.s.go hb,Blk.go h.n hb⟩
theorem Ui (X:World):ZnAt X X.heap.size ⟨[],[],[],[]⟩ none none none none:=⟨Reads.none_,Reads.none_,Reads.none_,Reads.none_⟩
theorem Km:ZnOk ⟨[],[],[],[]⟩:=⟨by simp,by simp,by simp,by simp⟩
theorem Uu (X:World) (A:Option Addr) (c g:Nat) (h:Reads X X.heap.size 5 A 4 (Ba sumRegs)) :
  Calls Tryz.prog 17 #[.slice A 4 c,.agg #[.slice none 0 0,.slice (some ⟨g,0,none⟩) 3 3,.slice none 0 0,.int .i64 0],.agg #[.slice none 0 0,.slice none 0 0,.slice none 0 0,.slice none 0 0]] X fun e Y =>
   ∃ (v0:Option Addr) (vn0 vc0:Nat) (v1:Option Addr) (vn1 vc1:Nat) (v2:Option Addr) (vn2 vc2:Nat) (v3:Option Addr) (vn3 vc3:Nat) (v4:Option Addr) (vn4 vc4:Nat) (sA:Option Addr) (sc kA ko kc:Nat),e=.returned (.agg #[.slice v0 vn0 vc0,.slice v1 vn1 vc1,.slice v2 vn2 vc2,.slice v3 vn3 vc3,.slice v4 vn4 vc4,.slice sA 32 sc,.slice (some ⟨kA,ko,none⟩) 1 kc,.int .i64 3,.int .i64 0,.int .i64 0])∧Below X.heap.size X Y∧kA<Y.heap.size∧Y.cell? ⟨kA,ko,none⟩=some (.int .i64 12):=by
 refine(Qr X sumRegs A c [] 0 ⟨[],[],[],[]⟩ (by simp) Km (by decide) none (some ⟨g,0,none⟩) none none none none none 0 0 3 3 0 0 0 0 0 h Reads.none_ (Ui X) Iv).mono ?_;rintro e Y ⟨og,cu,tu,en,cv,st,sk,rfl,hr,hb⟩;obtain⟨s1,s2⟩:=Zi;have h1:=hr.og;have h2:=hr.cu;have h3:=hr.to;have h4:=hr.en;have h5:=hr.cv;have h6:=hr.st;have h7:Y.ownsRow X.heap.size 3 1 sk 1 [.int .i64 12]:=by have:=hr.sk;rw[s1] at this;exact this
 obtain⟨v0,vc0,rfl,_⟩:=Dq h1;obtain⟨v1,vc1,rfl,_⟩:=Dq h2;obtain⟨v2,vc2,rfl,_⟩:=Dq h3;obtain⟨v3,vc3,rfl,_⟩:=Dq h4;obtain⟨v4,vc4,rfl,_⟩:=Dq h5;obtain⟨sA,sc,rfl,_⟩:=Dq h6;obtain⟨kA,kc,rfl,hk⟩:=Dq h7;obtain⟨b,off,rfl,hbB,hcells⟩:=hk.2 (by decide);exact⟨v0,_,vc0,v1,_,vc1,v2,_,vc2,v3,_,vc3,v4,_,vc4,sA,sc,b,off,kc,by rw[s2];rfl,hb,hbB,hcells 0 _ rfl⟩
theorem Zct {X:World} {k:Nat} (h:Reads X X.heap.size 5 (some ⟨k,0,none⟩) 4 (Ba sumRegs)):Reads X X.heap.size 5 (some ⟨k,0,none⟩) (sumRegs.take 3).length (Ba (sumRegs.take 3)):=by
 obtain⟨_,h2⟩:=h;obtain⟨b,off,e,hb,hc⟩:=h2 (by decide);refine⟨rfl,fun _=>⟨b,off,e,hb,fun j u hu=>hc j u ?_⟩⟩;have hp:Ba sumRegs=Ba (sumRegs.take 3)++[.int .i64 42,.int .i64 0,.int .i64 0,.int .i64 0,.int .i64 1]:=rfl;rw[hp,List.getElem?_append_left (List.getElem?_eq_some_iff.1 hu).1];exact hu
theorem Mz (X:World) (B:Nat):RowsAt X B none []:=⟨[],Reads.none_,fun i l h=>by simp at h⟩
theorem Uv (X:World) (g:Nat) (h:Reads X X.heap.size 2 (some ⟨g,0,none⟩) 3 (Bg Iw)) :
  Calls Tryz.prog 14 #[.agg #[.slice none 0 0,.slice (some ⟨g,0,none⟩) 3 3,.slice none 0 0,.int .i64 0]] X fun e Y=>∃ A c,e=.returned (.tuple #[.slice A 4 c,.int .i64 0])∧Below X.heap.size X Y∧Reads Y Y.heap.size 5 A 4 (Ba sumRegs):=by
 refine(Kb none (some ⟨g,0,none⟩) 0 3 (.slice none 0 0) 0 [] Iw X ⟨_,_,_,rfl⟩ (Mz X _) h (by simp) (by decide) (by simp) (by unfold I64 Iw;simp)).mono ?_;rintro e Y ⟨v,rfl,hb,ho⟩;rw[Uw] at ho ⊢;obtain⟨A,c,rfl,hr⟩:=Dq ho;exact⟨A,c,rfl,hb,hr⟩
theorem Yq (X:World) (g:Nat) (h:Reads X X.heap.size 2 (some ⟨g,0,none⟩) 1 (Bg Lg)) :
  Calls Tryz.prog 14 #[.agg #[.slice none 0 0,.slice (some ⟨g,0,none⟩) 1 1,.slice none 0 0,.int .i64 0]] X fun e Y=>∃ v,e=.returned (.tuple #[v,.int .i64 51])∧Below X.heap.size X Y:=by
 refine(Kb none (some ⟨g,0,none⟩) 0 1 (.slice none 0 0) 0 [] Lg X ⟨_,_,_,rfl⟩ (Mz X _) h (by simp) (by decide) (by simp) (by unfold I64 Lg;simp)).mono ?_;rintro e Y ⟨v,rfl,hb,ho⟩;rw[Yr];exact⟨v,rfl,hb⟩
theorem Zeu (X:World) (g:Nat) :
  Calls Tryz.prog 17 #[.slice none 0 0,.agg #[.slice none 0 0,.slice (some ⟨g,0,none⟩) 3 3,.slice none 0 0,.int .i64 0],.agg #[.slice none 0 0,.slice none 0 0,.slice none 0 0,.slice none 0 0]] X (NoRun X) :=
 Vi X [] none 0 [] 0 ⟨[],[],[],[]⟩ (by simp) Km (by simp) none (some ⟨g,0,none⟩) none none none none none 0 0 3 3 0 0 0 0 0 Reads.none_ Reads.none_ (Ui X) Nh
theorem Yj (w:World):Calls Tryz.prog 15 #[] w fun e w'=>e=.returned (.bool true)∧Below w.heap.size w w':=by
 go_enter Tryz.func15,Tryz.ntmps15;go_wp2_with fail
 refine(Zcu w).mono ?_;rintro e w1 ⟨g,k,rfl,hb,hg,hk⟩;go_upto_region 2 with fail
 have h1:BtA w w1.heap.size g k (w1.alloc (.cells #[.slice none 0 0,.slice (some ⟨g,0,none⟩) 3 3,.slice none 0 0,.int .i64 0] 26)):=⟨Blk.new _ _ _,Reads.go hg (Fv _ _),Reads.go hk (Fv _ _),hb.alloc hb.size _⟩;have H1:=Aa h1;clear h1 hb hg hk;generalize w1.alloc (.cells #[.slice none 0 0,.slice (some ⟨g,0,none⟩) 3 3,.slice none 0 0,.int .i64 0] 26)=X at *;generalize w1.heap.size=pb at *;have c0:=Ab H1.out.p 0 rfl;have c1:=Ab H1.out.p 1 rfl;have c2:=Ab H1.out.p 2 rfl;have c3:=Ab H1.out.p 3 rfl;have hl:=H1.out.p.lt;go_wp2_with fail
 refine(Uv X g H1.out.i).mono ?_;rintro e w2 ⟨A,c,rfl,hb,hv⟩;go_upto_region 3 with fail
 have H2:=Aa (H1.out.go hb);have HV2:=Aa hv;clear c0 c1 c2 c3 hl H1 hb hv;have c0:=Ab H2.out.p 0 rfl;have c1:=Ab H2.out.p 1 rfl;have c2:=Ab H2.out.p 2 rfl;have c3:=Ab H2.out.p 3 rfl;have hl:=H2.out.p.lt;go_wp2_with fail
 refine(Uu w2 A c g HV2.out).mono ?_;rintro e w3 ⟨a0,an0,ac0,a1,an1,ac1,a2,an2,ac2,a3,an3,ac3,a4,an4,ac4,a5,a6,kA,ko,kc,rfl,hb,hk1,hk2⟩;go_upto_region 4 with fail
 have hb':=hb.alloc hb.size (.cells #[.slice a0 an0 ac0,.slice a1 an1 ac1,.slice a2 an2 ac2,.slice a3 an3 ac3,.slice a4 an4 ac4,.slice a5 32 a6,.slice (some ⟨kA,ko,none⟩) 1 kc,.int .i64 3,.int .i64 0,.int .i64 0] 39);have H3:=Aa (H2.out.go hb');have HV3:=Aa (Reads.go HV2.out hb');have HR3:Hid (BtR w3.heap.size #[.slice a0 an0 ac0,.slice a1 an1 ac1,.slice a2 an2 ac2,.slice a3 an3 ac3,.slice a4 an4 ac4,.slice a5 32 a6,.slice (some ⟨kA,ko,none⟩) 1 kc,.int .i64 3,.int .i64 0,.int .i64 0] kA ko (w3.alloc (.cells #[.slice a0 an0 ac0,.slice a1 an1 ac1,.slice a2 an2 ac2,.slice a3 an3 ac3,.slice a4 an4 ac4,.slice a5 32 a6,.slice (some ⟨kA,ko,none⟩) 1 kc,.int .i64 3,.int .i64 0,.int .i64 0] 39))):=Aa ⟨Blk.new _ _ _,by simp;omega,(World.cell?_alloc_lt _ _ _ hk1).trans hk2⟩;clear c0 c1 c2 c3 hl H2 HV2 hb hb' hk1 hk2;generalize w3.alloc (.cells #[.slice a0 an0 ac0,.slice a1 an1 ac1,.slice a2 an2 ac2,.slice a3 an3 ac3,.slice a4 an4 ac4,.slice a5 32 a6,.slice (some ⟨kA,ko,none⟩) 1 kc,.int .i64 3,.int .i64 0,.int .i64 0] 39)=X3 at *;generalize w3.heap.size=rb at *;have c0:=Ab H3.out.p 0 rfl;have c1:=Ab H3.out.p 1 rfl;have c2:=Ab H3.out.p 2 rfl;have c3:=Ab H3.out.p 3 rfl;have hl:=H3.out.p.lt;go_wp2_with fail
 refine(Uu X3 (some ⟨k,0,none⟩) 4 g H3.out.r).mono ?_;rintro e w4 ⟨b0,bn0,bc0,b1,bn1,bc1,b2,bn2,bc2,b3,bn3,bc3,b4,bn4,bc4,b5,b6,lA,lo,lc,rfl,hb,hk1,hk2⟩;go_upto_region 5 with fail
 have hb':=hb.alloc hb.size (.cells #[.slice b0 bn0 bc0,.slice b1 bn1 bc1,.slice b2 bn2 bc2,.slice b3 bn3 bc3,.slice b4 bn4 bc4,.slice b5 32 b6,.slice (some ⟨lA,lo,none⟩) 1 lc,.int .i64 3,.int .i64 0,.int .i64 0] 39);have H4:=Aa (H3.out.go hb');have HV4:=Aa (Reads.go HV3.out hb');have HR4:=Aa (HR3.out.go hb');have HS4:Hid (BtR w4.heap.size #[.slice b0 bn0 bc0,.slice b1 bn1 bc1,.slice b2 bn2 bc2,.slice b3 bn3 bc3,.slice b4 bn4 bc4,.slice b5 32 b6,.slice (some ⟨lA,lo,none⟩) 1 lc,.int .i64 3,.int .i64 0,.int .i64 0] lA lo (w4.alloc (.cells #[.slice b0 bn0 bc0,.slice b1 bn1 bc1,.slice b2 bn2 bc2,.slice b3 bn3 bc3,.slice b4 bn4 bc4,.slice b5 32 b6,.slice (some ⟨lA,lo,none⟩) 1 lc,.int .i64 3,.int .i64 0,.int .i64 0] 39))):=Aa ⟨Blk.new _ _ _,by simp;omega,(World.cell?_alloc_lt _ _ _ hk1).trans hk2⟩;clear c0 c1 c2 c3 hl H3 HV3 HR3 hb hb' hk1 hk2;generalize w4.alloc (.cells #[.slice b0 bn0 bc0,.slice b1 bn1 bc1,.slice b2 bn2 bc2,.slice b3 bn3 bc3,.slice b4 bn4 bc4,.slice b5 32 b6,.slice (some ⟨lA,lo,none⟩) 1 lc,.int .i64 3,.int .i64 0,.int .i64 0] 39)=X4 at *;generalize w4.heap.size=sb at *;go_wp2_with fail
 refine(Yq _ X4.heap.size (Reads.blk (cs:=Bg Lg) (Blk.new X4 96 _) 2 1 rfl)).mono ?_;rintro e w5 ⟨av,rfl,hb⟩;go_upto_region 6 with fail
 have hb':=(Fv X4 (.cells (Bg Lg).toArray 96)).trans (hb.mono (by simp));have H5:=Aa (H4.out.go hb');have HV5:=Aa (Reads.go HV4.out hb');have HR5:=Aa (HR4.out.go hb');have HS5:=Aa (HS4.out.go hb');clear H4 HV4 HR4 HS4 hb hb';have c0:=Ab H5.out.p 0 rfl;have c1:=Ab H5.out.p 1 rfl;have c2:=Ab H5.out.p 2 rfl;have c3:=Ab H5.out.p 3 rfl;have hl:=H5.out.p.lt;go_wp2_with fail
 refine(Zeu w5 g).mono ?_;rintro e w6 ⟨rfl,hb⟩;go_upto_region 7 with fail
 have hb':=hb.alloc hb.size (.cells #[.slice none 0 0,.slice none 0 0,.slice none 0 0,.slice none 0 0,.slice none 0 0,.slice none 0 0,.slice none 0 0,.int .i64 0,.int .i64 0,.int .i64 50] 39);have HE:Hid (BtE w pb g k A rb _ kA ko sb _ lA lo w6.heap.size _ _):=Aa ⟨H5.out.go hb',Reads.go HV5.out hb',HR5.out.go hb',HS5.out.go hb',Blk.new _ _ _⟩;clear H5 HV5 HR5 HS5 hb hb' c0 c1 c2 c3 hl;generalize w6.alloc (.cells #[.slice none 0 0,.slice none 0 0,.slice none 0 0,.slice none 0 0,.slice none 0 0,.slice none 0 0,.slice none 0 0,.int .i64 0,.int .i64 0,.int .i64 50] 39)=X6 at *;generalize w6.heap.size=nb at *;have r5:=Ab HE.out.r.blk 6 rfl;have r9:=Ab HE.out.r.blk 9 rfl;have s5:=Ab HE.out.s.blk 5 rfl;have s6:=Ab HE.out.s.blk 6 rfl;have s7:=Ab HE.out.s.blk 7 rfl;have n9:=Ab HE.out.n 9 rfl;have rl:=HE.out.r.blk.lt;have sl:=HE.out.s.blk.lt;have nl:=HE.out.n.lt;have kl:=HE.out.r.lt;have ll:=HE.out.s.lt;have k12:=HE.out.r.at_;have l12:=HE.out.s.at_;go_wp2_with fail
 refine(Dw A c _ sumRegs _ HE.out.v Ad (by decide)).mono ?_;rintro e w7 ⟨rfl,hb⟩;rw[Iv];have HE2:=Aa (HE.out.go hb);clear r5 r9 s5 s6 s7 n9 rl sl nl kl ll k12 l12 HE hb;obtain⟨HE,_⟩:Hid _∧True:=⟨HE2,trivial⟩;clear HE2;have r5:=Ab HE.out.r.blk 6 rfl;have r9:=Ab HE.out.r.blk 9 rfl;have s5:=Ab HE.out.s.blk 5 rfl;have s6:=Ab HE.out.s.blk 6 rfl;have s7:=Ab HE.out.s.blk 7 rfl;have n9:=Ab HE.out.n 9 rfl;have rl:=HE.out.r.blk.lt;have sl:=HE.out.s.blk.lt;have nl:=HE.out.n.lt;have kl:=HE.out.r.lt;have ll:=HE.out.s.lt;have k12:=HE.out.r.at_;have l12:=HE.out.s.at_;go_wp2_with fail
 refine(Dw (some ⟨k,0,none⟩) 4 _ sumRegs _ HE.out.a.r Ad (by decide)).mono ?_;rintro e w8 ⟨rfl,hb⟩;rw[Iv];have HE2:=Aa (HE.out.go hb);clear r5 r9 s5 s6 s7 n9 rl sl nl kl ll k12 l12 HE hb;obtain⟨HE,_⟩:Hid _∧True:=⟨HE2,trivial⟩;clear HE2;have r5:=Ab HE.out.r.blk 6 rfl;have r9:=Ab HE.out.r.blk 9 rfl;have s5:=Ab HE.out.s.blk 5 rfl;have s6:=Ab HE.out.s.blk 6 rfl;have s7:=Ab HE.out.s.blk 7 rfl;have n9:=Ab HE.out.n 9 rfl;have rl:=HE.out.r.blk.lt;have sl:=HE.out.s.blk.lt;have nl:=HE.out.n.lt;have kl:=HE.out.r.lt;have ll:=HE.out.s.lt;have k12:=HE.out.r.at_;have l12:=HE.out.s.at_;go_wp2_with fail
 refine(Dw none 0 _ [] _ Reads.none_ Ad (by decide)).mono ?_;rintro e w9 ⟨rfl,hb⟩;rw[Nh];have HE2:=Aa (HE.out.go hb);clear r5 r9 s5 s6 s7 n9 rl sl nl kl ll k12 l12 HE hb;obtain⟨HE,_⟩:Hid _∧True:=⟨HE2,trivial⟩;clear HE2;have r5:=Ab HE.out.r.blk 6 rfl;have r9:=Ab HE.out.r.blk 9 rfl;have s5:=Ab HE.out.s.blk 5 rfl;have s6:=Ab HE.out.s.blk 6 rfl;have s7:=Ab HE.out.s.blk 7 rfl;have n9:=Ab HE.out.n 9 rfl;have rl:=HE.out.r.blk.lt;have sl:=HE.out.s.blk.lt;have nl:=HE.out.n.lt;have kl:=HE.out.r.lt;have ll:=HE.out.s.lt;have k12:=HE.out.r.at_;have l12:=HE.out.s.at_;go_wp2_with fail
 refine(Dw (some ⟨k,0,none⟩) 4 _ (sumRegs.take 3) _ (Zct HE.out.a.r) Ad (by decide)).mono ?_;rintro e w10 ⟨rfl,hb⟩;rw[Zj];have HE2:=Aa (HE.out.go hb);clear r5 r9 s5 s6 s7 n9 rl sl nl kl ll k12 l12 HE hb;obtain⟨HE,_⟩:Hid _∧True:=⟨HE2,trivial⟩;clear HE2;have hbw:=HE.out.a.b;go_wp2_with fail
 go_ret;exact⟨rfl,hbw⟩
end Go.Proofs.YtnhebmgibiomnaaGreat
