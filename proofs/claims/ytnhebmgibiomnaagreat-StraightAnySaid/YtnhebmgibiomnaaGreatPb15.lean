/- Parts of the proof, joined: MaY SrN. -/
import Derived.Test.YtnhebmgibiomnaaGreatPb13
import Derived.Test.YtnhebmgibiomnaaGreatPb14
set_option linter.unusedVariables false
set_option linter.unusedSimpArgs false
set_option maxRecDepth 100000
set_option maxHeartbeats 8000000
namespace Go.Proofs.YtnhebmgibiomnaaGreat
open Go.RowKit Mc
theorem Ao {f : Nat} {fn : Func} {c : Code} (hf : Tryz.prog.funcs[f]? = some fn) (hname : (fn.name == "runtime.NumGoroutine") = false) (hb : fn.body = some c) : ∀ args w, Sem.run Tryz.prog (callFunc f args) w = .ok (.enter f args) w :=
 fun args w=>Go.MuLone.run_callFunc_enter hf hname hb args w
theorem Tp (w:World) (mb:Nat) (O:Nat→Prop) (L:Lay) (s:St) (h:MaL w mb O L s) (a:Int) :
  Calls Tryz.prog 213 #[.pointer (some ⟨mb,0,none⟩),.int .i64 a] w (MPost w mb O (Ki s (a % 2))):=by
 have HC:=Aa (Xb w mb O L s h (a % 2) (by omega));clear h;go_enter Tryz.func213,Tryz.ntmps213;go_wp2_with fail
 refine(Na _ 2 _ (by decide) (by decide)).mono ?_;rintro e w1 ⟨rfl,rfl⟩;go_wp2_with fail
 refine HC.out.mono ?_;intro e w9 hp;have HP:=Aa (MPost.here hp.2.1 hp.2.2);obtain⟨rfl,_⟩:=hp;go_wp2;go_end0;exact HP.out
structure CanDo (n:Nat) (a:Int) (s:St):Prop where
 st:takes n≤s.stack.length
 lv:s.stack.length+leaves n≤32+takes n
 jump:(n=35∨n=36)→∃ f r,s.frames=f::r∧0≤a∧f.next+a.toNat≤f.code.length
 call:(n=37∨n=38)→0≤a∧a.toNat<s.funcs.length∧s.frames.length≤20
def Ay (w:World) (mb:Nat) (O:Nat→Prop) (s:St) (n:Nat) (a:Int) (bs:Nat→Nat):Prop :=
 ∃ id,(Jw n).1=.func id∧(∀ args w,Sem.run Tryz.prog (callFunc id args) w=.ok (.enter id args) w) ∧
  Calls Tryz.prog id (match (Jw n).2 with|some _=>#[.pointer (some ⟨mb,0,none⟩),.int .i64 a,.pointer (some ⟨bs n,0,none⟩)]|none=>#[.pointer (some ⟨mb,0,none⟩),.int .i64 a]) w (MPost w mb O (deed n a s))
theorem st1 {l:List Int} (h:1≤l.length):∃ x r,l=x::r:=by
 cases l with
 | nil=>simp at h
 | cons x r=>exact⟨x,r,rfl⟩
theorem st2 {l:List Int} (h:2≤l.length):∃ y x r,l=y::x::r:=by
 match l,h with
 | y::x::r,_=>exact⟨y,x,r,rfl⟩
 | [_],h=>simp at h
 | [],h=>simp at h
section
variable {w : World} {mb : Nat} {O : Nat → Prop} {L : Lay} {s : St} {a : Int} {bs : Nat → Nat}
theorem dc1 (h:MaL w mb O L s) (hc:CanDo 1 a s) (_hb:DeedBox w O bs 1):Ay w mb O s 1 a bs:=by
 refine⟨_,rfl,(Ao Tryz.func166 (by kernel_rfl) rfl),?_⟩;have e:deed ((1:Nat):Int) a s=push a s:=rfl;rw[e];exact Vt w mb O L s h a (by have:=hc.lv;simp[takes,leaves] at this;omega)
theorem dc2 (h:MaL w mb O L s) (hc:CanDo 2 a s) (_hb:DeedBox w O bs 2):Ay w mb O s 2 a bs:=by
 obtain⟨x,r,hs⟩:=st1 (l:=s.stack) (by have:=hc.st;simpa [takes] using this);refine⟨_,rfl,(Ao Tryz.func168 (by kernel_rfl) rfl),?_⟩;have e:deed ((2:Nat):Int) a s = { s with stack:=r } := by
  have e0:deed ((2:Nat):Int) a s = { s with stack:=(s.stack.drop 1) } := rfl;rw[e0,hs];rfl
 rw[e];exact Zag w mb O L s h a x r hs
theorem dc3 (h:MaL w mb O L s) (hc:CanDo 3 a s) (_hb:DeedBox w O bs 3):Ay w mb O s 3 a bs:=by
 obtain⟨x,r,hs⟩:=st1 (l:=s.stack) (by have:=hc.st;simpa [takes] using this);refine⟨_,rfl,(Ao Tryz.func170 (by kernel_rfl) rfl),?_⟩;have e:deed ((3:Nat):Int) a s=push x (push x { s with stack:=r }):=by
  have e0:deed ((3:Nat):Int) a s=push (s.stack.getD 0 0) (push (s.stack.getD 0 0) { s with stack:=(s.stack.drop 1) }):=rfl;rw[e0,hs];rfl
 rw[e];exact Zbh w mb O L s h a x r hs (by have:=hc.lv;simp[takes,leaves] at this;omega)
theorem dc4 (h:MaL w mb O L s) (hc:CanDo 4 a s) (_hb:DeedBox w O bs 4):Ay w mb O s 4 a bs:=by
 obtain⟨y,x,r,hs⟩:=st2 (l:=s.stack) (by have:=hc.st;simpa [takes] using this);refine⟨_,rfl,(Ao Tryz.func171 (by kernel_rfl) rfl),?_⟩;have e:deed ((4:Nat):Int) a s=push x (push y { s with stack:=r }):=by
  have e0:deed ((4:Nat):Int) a s=push (s.stack.getD 1 0) (push (s.stack.getD 0 0) { s with stack:=(s.stack.drop 2) }):=rfl;rw[e0,hs];rfl
 rw[e];exact Ut w mb O L s h a x y r hs
theorem dc5 (h:MaL w mb O L s) (hc:CanDo 5 a s) (hb:DeedBox w O bs 5):Ay w mb O s 5 a bs:=by
 obtain⟨y,x,r,hs⟩:=st2 (l:=s.stack) (by have:=hc.st;simpa [takes] using this);refine⟨_,rfl,(Ao Tryz.func250 (by kernel_rfl) rfl),?_⟩;have e:deed ((5:Nat):Int) a s=push (x+y) { s with stack:=r } := by
  have e0:deed ((5:Nat):Int) a s=push ((s.stack.getD 1 0)+(s.stack.getD 0 0)) { s with stack:=s.stack.drop 2 } := rfl;rw[e0,hs];rfl
 rw[e];exact Dv w mb O L s h a x y r hs (bs 5) _ hb.2 _ (Ao Tryz.func173 (by kernel_rfl) rfl) (fun w hx hy=>d5 x y w hx hy)
theorem dc6 (h:MaL w mb O L s) (hc:CanDo 6 a s) (hb:DeedBox w O bs 6):Ay w mb O s 6 a bs:=by
 obtain⟨y,x,r,hs⟩:=st2 (l:=s.stack) (by have:=hc.st;simpa [takes] using this);refine⟨_,rfl,(Ao Tryz.func250 (by kernel_rfl) rfl),?_⟩;have e:deed ((6:Nat):Int) a s=push (x-y) { s with stack:=r } := by
  have e0:deed ((6:Nat):Int) a s=push ((s.stack.getD 1 0)-(s.stack.getD 0 0)) { s with stack:=s.stack.drop 2 } := rfl;rw[e0,hs];rfl
 rw[e];exact Dv w mb O L s h a x y r hs (bs 6) _ hb.2 _ (Ao Tryz.func174 (by kernel_rfl) rfl) (fun w hx hy=>d6 x y w hx hy)
theorem dc7 (h:MaL w mb O L s) (hc:CanDo 7 a s) (hb:DeedBox w O bs 7):Ay w mb O s 7 a bs:=by
 obtain⟨y,x,r,hs⟩:=st2 (l:=s.stack) (by have:=hc.st;simpa [takes] using this);refine⟨_,rfl,(Ao Tryz.func250 (by kernel_rfl) rfl),?_⟩;have e:deed ((7:Nat):Int) a s=push (k32 (x*y / 64)) { s with stack:=r } := by
  have e0:deed ((7:Nat):Int) a s=push (k32 ((s.stack.getD 1 0)*(s.stack.getD 0 0) / 64)) { s with stack:=s.stack.drop 2 } := rfl;rw[e0,hs];rfl
 rw[e];exact Dv w mb O L s h a x y r hs (bs 7) _ hb.2 _ (Ao Tryz.func175 (by kernel_rfl) rfl) (fun w hx hy=>d7 x y w hx hy)
theorem dc8 (h:MaL w mb O L s) (hc:CanDo 8 a s) (hb:DeedBox w O bs 8):Ay w mb O s 8 a bs:=by
 obtain⟨y,x,r,hs⟩:=st2 (l:=s.stack) (by have:=hc.st;simpa [takes] using this);refine⟨_,rfl,(Ao Tryz.func250 (by kernel_rfl) rfl),?_⟩;have e:deed ((8:Nat):Int) a s=push (k32 (divd (64*x) y)) { s with stack:=r } := by
  have e0:deed ((8:Nat):Int) a s=push (k32 (divd (64*(s.stack.getD 1 0)) (s.stack.getD 0 0))) { s with stack:=s.stack.drop 2 } := rfl;rw[e0,hs];rfl
 rw[e];exact Dv w mb O L s h a x y r hs (bs 8) _ hb.2 _ (Ao Tryz.func177 (by kernel_rfl) rfl) (fun w hx hy=>d8 x y w hx hy)
theorem dc9 (h:MaL w mb O L s) (hc:CanDo 9 a s) (hb:DeedBox w O bs 9):Ay w mb O s 9 a bs:=by
 obtain⟨x,r,hs⟩:=st1 (l:=s.stack) (by have:=hc.st;simpa [takes] using this);refine⟨_,rfl,(Ao Tryz.func251 (by kernel_rfl) rfl),?_⟩;have e:deed ((9:Nat):Int) a s=push (-x) { s with stack:=r } := by
  have e0:deed ((9:Nat):Int) a s=push (-(s.stack.getD 0 0)) { s with stack:=s.stack.drop 1 } := rfl;rw[e0,hs];rfl
 rw[e];exact Ji w mb O L s h a x r hs (bs 9) _ hb.2 _ (Ao Tryz.func180 (by kernel_rfl) rfl) (fun w hx=>d9 x w hx)
theorem dc10 (h:MaL w mb O L s) (hc:CanDo 10 a s) (hb:DeedBox w O bs 10):Ay w mb O s 10 a bs:=by
 obtain⟨x,r,hs⟩:=st1 (l:=s.stack) (by have:=hc.st;simpa [takes] using this);refine⟨_,rfl,(Ao Tryz.func251 (by kernel_rfl) rfl),?_⟩;have e:deed ((10:Nat):Int) a s=push (max x (-x)) { s with stack:=r } := by
  have e0:deed ((10:Nat):Int) a s=push (max (s.stack.getD 0 0) (-(s.stack.getD 0 0))) { s with stack:=s.stack.drop 1 } := rfl;rw[e0,hs];rfl
 rw[e];exact Ji w mb O L s h a x r hs (bs 10) _ hb.2 _ (Ao Tryz.func181 (by kernel_rfl) rfl) (fun w hx=>d10 x w hx)
theorem dc11 (h:MaL w mb O L s) (hc:CanDo 11 a s) (hb:DeedBox w O bs 11):Ay w mb O s 11 a bs:=by
 obtain⟨y,x,r,hs⟩:=st2 (l:=s.stack) (by have:=hc.st;simpa [takes] using this);refine⟨_,rfl,(Ao Tryz.func250 (by kernel_rfl) rfl),?_⟩;have e:deed ((11:Nat):Int) a s=push (min x y) { s with stack:=r } := by
  have e0:deed ((11:Nat):Int) a s=push (min (s.stack.getD 1 0) (s.stack.getD 0 0)) { s with stack:=s.stack.drop 2 } := rfl;rw[e0,hs];rfl
 rw[e];exact Dv w mb O L s h a x y r hs (bs 11) _ hb.2 _ (Ao Tryz.func182 (by kernel_rfl) rfl) (fun w hx hy=>d11 x y w hx hy)
theorem dc12 (h:MaL w mb O L s) (hc:CanDo 12 a s) (hb:DeedBox w O bs 12):Ay w mb O s 12 a bs:=by
 obtain⟨y,x,r,hs⟩:=st2 (l:=s.stack) (by have:=hc.st;simpa [takes] using this);refine⟨_,rfl,(Ao Tryz.func250 (by kernel_rfl) rfl),?_⟩;have e:deed ((12:Nat):Int) a s=push (max x y) { s with stack:=r } := by
  have e0:deed ((12:Nat):Int) a s=push (max (s.stack.getD 1 0) (s.stack.getD 0 0)) { s with stack:=s.stack.drop 2 } := rfl;rw[e0,hs];rfl
 rw[e];exact Dv w mb O L s h a x y r hs (bs 12) _ hb.2 _ (Ao Tryz.func183 (by kernel_rfl) rfl) (fun w hx hy=>d12 x y w hx hy)
theorem dc13 (h:MaL w mb O L s) (hc:CanDo 13 a s) (hb:DeedBox w O bs 13):Ay w mb O s 13 a bs:=by
 obtain⟨x,r,hs⟩:=st1 (l:=s.stack) (by have:=hc.st;simpa [takes] using this);refine⟨_,rfl,(Ao Tryz.func251 (by kernel_rfl) rfl),?_⟩;have e:deed ((13:Nat):Int) a s=push (Bp 4 x) { s with stack:=r } := by
  have e0:deed ((13:Nat):Int) a s=push (Bp 4 (s.stack.getD 0 0)) { s with stack:=s.stack.drop 1 } := rfl;rw[e0,hs];rfl
 rw[e];exact Ji w mb O L s h a x r hs (bs 13) _ hb.2 _ (Ao Tryz.func184 (by kernel_rfl) rfl) (fun w hx=>d13 x w hx)
theorem dc14 (h:MaL w mb O L s) (hc:CanDo 14 a s) (hb:DeedBox w O bs 14):Ay w mb O s 14 a bs:=by
 obtain⟨x,r,hs⟩:=st1 (l:=s.stack) (by have:=hc.st;simpa [takes] using this);refine⟨_,rfl,(Ao Tryz.func251 (by kernel_rfl) rfl),?_⟩;have e:deed ((14:Nat):Int) a s=push (Bp 5 x) { s with stack:=r } := by
  have e0:deed ((14:Nat):Int) a s=push (Bp 5 (s.stack.getD 0 0)) { s with stack:=s.stack.drop 1 } := rfl;rw[e0,hs];rfl
 rw[e];exact Ji w mb O L s h a x r hs (bs 14) _ hb.2 _ (Ao Tryz.func185 (by kernel_rfl) rfl) (fun w hx=>d14 x w hx)
theorem dc15 (h:MaL w mb O L s) (hc:CanDo 15 a s) (_hb:DeedBox w O bs 15):Ay w mb O s 15 a bs:=by
 obtain⟨x,r,hs⟩:=st1 (l:=s.stack) (by have:=hc.st;simpa [takes] using this);refine⟨_,rfl,(Ao Tryz.func186 (by kernel_rfl) rfl),?_⟩;have e:deed ((15:Nat):Int) a s=push (Bp s.mode x) { s with stack:=r } := by
  have e0:deed ((15:Nat):Int) a s=push (Bp s.mode (s.stack.getD 0 0)) { s with stack:=(s.stack.drop 1) } := rfl;rw[e0,hs];rfl
 rw[e];exact Sv w mb O L s h a x r hs
theorem dc16 (h:MaL w mb O L s) (hc:CanDo 16 a s) (hb:DeedBox w O bs 16):Ay w mb O s 16 a bs:=by
 obtain⟨y,x,r,hs⟩:=st2 (l:=s.stack) (by have:=hc.st;simpa [takes] using this);refine⟨_,rfl,(Ao Tryz.func250 (by kernel_rfl) rfl),?_⟩;have e:deed ((16:Nat):Int) a s=push (truth (decide (x<y))) { s with stack:=r } := by
  have e0:deed ((16:Nat):Int) a s=push (truth (decide ((s.stack.getD 1 0)<(s.stack.getD 0 0)))) { s with stack:=s.stack.drop 2 } := rfl;rw[e0,hs];rfl
 rw[e];exact Dv w mb O L s h a x y r hs (bs 16) _ hb.2 _ (Ao Tryz.func187 (by kernel_rfl) rfl) (fun w hx hy=>d16 x y w hx hy)
theorem dc17 (h:MaL w mb O L s) (hc:CanDo 17 a s) (hb:DeedBox w O bs 17):Ay w mb O s 17 a bs:=by
 obtain⟨y,x,r,hs⟩:=st2 (l:=s.stack) (by have:=hc.st;simpa [takes] using this);refine⟨_,rfl,(Ao Tryz.func250 (by kernel_rfl) rfl),?_⟩;have e:deed ((17:Nat):Int) a s=push (truth (decide (x≤y))) { s with stack:=r } := by
  have e0:deed ((17:Nat):Int) a s=push (truth (decide ((s.stack.getD 1 0)≤(s.stack.getD 0 0)))) { s with stack:=s.stack.drop 2 } := rfl;rw[e0,hs];rfl
 rw[e];exact Dv w mb O L s h a x y r hs (bs 17) _ hb.2 _ (Ao Tryz.func189 (by kernel_rfl) rfl) (fun w hx hy=>d17 x y w hx hy)
theorem dc18 (h:MaL w mb O L s) (hc:CanDo 18 a s) (hb:DeedBox w O bs 18):Ay w mb O s 18 a bs:=by
 obtain⟨y,x,r,hs⟩:=st2 (l:=s.stack) (by have:=hc.st;simpa [takes] using this);refine⟨_,rfl,(Ao Tryz.func250 (by kernel_rfl) rfl),?_⟩;have e:deed ((18:Nat):Int) a s=push (truth (decide (x=y))) { s with stack:=r } := by
  have e0:deed ((18:Nat):Int) a s=push (truth (decide ((s.stack.getD 1 0)=(s.stack.getD 0 0)))) { s with stack:=s.stack.drop 2 } := rfl;rw[e0,hs];rfl
 rw[e];exact Dv w mb O L s h a x y r hs (bs 18) _ hb.2 _ (Ao Tryz.func190 (by kernel_rfl) rfl) (fun w hx hy=>d18 x y w hx hy)
theorem dc19 (h:MaL w mb O L s) (hc:CanDo 19 a s) (hb:DeedBox w O bs 19):Ay w mb O s 19 a bs:=by
 obtain⟨x,r,hs⟩:=st1 (l:=s.stack) (by have:=hc.st;simpa [takes] using this);refine⟨_,rfl,(Ao Tryz.func251 (by kernel_rfl) rfl),?_⟩;have e:deed ((19:Nat):Int) a s=push (truth (decide (x=0))) { s with stack:=r } := by
  have e0:deed ((19:Nat):Int) a s=push (truth (decide ((s.stack.getD 0 0)=0))) { s with stack:=s.stack.drop 1 } := rfl;rw[e0,hs];rfl
 rw[e];exact Ji w mb O L s h a x r hs (bs 19) _ hb.2 _ (Ao Tryz.func191 (by kernel_rfl) rfl) (fun w hx=>d19 x w hx)
theorem dc20 (h:MaL w mb O L s) (hc:CanDo 20 a s) (hb:DeedBox w O bs 20):Ay w mb O s 20 a bs:=by
 obtain⟨y,x,r,hs⟩:=st2 (l:=s.stack) (by have:=hc.st;simpa [takes] using this);refine⟨_,rfl,(Ao Tryz.func250 (by kernel_rfl) rfl),?_⟩;have e:deed ((20:Nat):Int) a s=push (truth (decide (x≠0∧y≠0))) { s with stack:=r } := by
  have e0:deed ((20:Nat):Int) a s=push (truth (decide ((s.stack.getD 1 0)≠0∧(s.stack.getD 0 0)≠0))) { s with stack:=s.stack.drop 2 } := rfl;rw[e0,hs];rfl
 rw[e];exact Dv w mb O L s h a x y r hs (bs 20) _ hb.2 _ (Ao Tryz.func192 (by kernel_rfl) rfl) (fun w hx hy=>d20 x y w hx hy)
theorem dc21 (h:MaL w mb O L s) (hc:CanDo 21 a s) (hb:DeedBox w O bs 21):Ay w mb O s 21 a bs:=by
 obtain⟨y,x,r,hs⟩:=st2 (l:=s.stack) (by have:=hc.st;simpa [takes] using this);refine⟨_,rfl,(Ao Tryz.func250 (by kernel_rfl) rfl),?_⟩;have e:deed ((21:Nat):Int) a s=push (truth (decide (x≠0∨y≠0))) { s with stack:=r } := by
  have e0:deed ((21:Nat):Int) a s=push (truth (decide ((s.stack.getD 1 0)≠0∨(s.stack.getD 0 0)≠0))) { s with stack:=s.stack.drop 2 } := rfl;rw[e0,hs];rfl
 rw[e];exact Dv w mb O L s h a x y r hs (bs 21) _ hb.2 _ (Ao Tryz.func193 (by kernel_rfl) rfl) (fun w hx hy=>d21 x y w hx hy)
theorem dc22 (h:MaL w mb O L s) (_hc:CanDo 22 a s) (_hb:DeedBox w O bs 22):Ay w mb O s 22 a bs:=by
 refine⟨_,rfl,(Ao Tryz.func194 (by kernel_rfl) rfl),?_⟩;have e:deed ((22:Nat):Int) a s = { s with look:=a % 2 } := rfl;rw[e];exact Vy w mb O L s h a
theorem dc23 (h:MaL w mb O L s) (_hc:CanDo 23 a s) (_hb:DeedBox w O bs 23):Ay w mb O s 23 a bs:=by
 refine⟨_,rfl,(Ao Tryz.func196 (by kernel_rfl) rfl),?_⟩;have e:deed ((23:Nat):Int) a s = { s with move:=a % 2 } := rfl;rw[e];exact Xr w mb O L s h a
theorem dc24 (h:MaL w mb O L s) (_hc:CanDo 24 a s) (_hb:DeedBox w O bs 24):Ay w mb O s 24 a bs:=by
 refine⟨_,rfl,(Ao Tryz.func197 (by kernel_rfl) rfl),?_⟩;have e:deed ((24:Nat):Int) a s = { s with mode:=a % 6 } := rfl;rw[e];exact Wn w mb O L s h a
theorem dc25 (h:MaL w mb O L s) (hc:CanDo 25 a s) (_hb:DeedBox w O bs 25):Ay w mb O s 25 a bs:=by
 obtain⟨x,r,hs⟩:=st1 (l:=s.stack) (by have:=hc.st;simpa [takes] using this);refine⟨_,rfl,(Ao Tryz.func198 (by kernel_rfl) rfl),?_⟩;have e:deed ((25:Nat):Int) a s=push (at_ s.cvt x) { s with stack:=r } := by
  have e0:deed ((25:Nat):Int) a s=push (at_ s.cvt (s.stack.getD 0 0)) { s with stack:=(s.stack.drop 1) } := rfl;rw[e0,hs];rfl
 rw[e];exact Zbl w mb O L s h a x r hs
theorem dc26 (h:MaL w mb O L s) (hc:CanDo 26 a s) (_hb:DeedBox w O bs 26):Ay w mb O s 26 a bs:=by
 obtain⟨y,x,r,hs⟩:=st2 (l:=s.stack) (by have:=hc.st;simpa [takes] using this);refine⟨_,rfl,(Ao Tryz.func200 (by kernel_rfl) rfl),?_⟩;have e:deed ((26:Nat):Int) a s = { s with stack:=r,cvt:=Fz s.cvt x y } := by
  have e0:deed ((26:Nat):Int) a s = { s with stack:=(s.stack.drop 2),cvt:=Fz s.cvt (s.stack.getD 1 0) (s.stack.getD 0 0) } := rfl;rw[e0,hs];rfl
 rw[e];exact Ow w mb O L s h a x y r hs
theorem dc27 (h:MaL w mb O L s) (hc:CanDo 27 a s) (_hb:DeedBox w O bs 27):Ay w mb O s 27 a bs:=by
 obtain⟨x,r,hs⟩:=st1 (l:=s.stack) (by have:=hc.st;simpa [takes] using this);refine⟨_,rfl,(Ao Tryz.func202 (by kernel_rfl) rfl),?_⟩;have e:deed ((27:Nat):Int) a s=push (at_ s.store x) { s with stack:=r } := by
  have e0:deed ((27:Nat):Int) a s=push (at_ s.store (s.stack.getD 0 0)) { s with stack:=(s.stack.drop 1) } := rfl;rw[e0,hs];rfl
 rw[e];exact Wv w mb O L s h a x r hs
theorem dc28 (h:MaL w mb O L s) (hc:CanDo 28 a s) (_hb:DeedBox w O bs 28):Ay w mb O s 28 a bs:=by
 obtain⟨y,x,r,hs⟩:=st2 (l:=s.stack) (by have:=hc.st;simpa [takes] using this);refine⟨_,rfl,(Ao Tryz.func203 (by kernel_rfl) rfl),?_⟩;have e:deed ((28:Nat):Int) a s = { s with stack:=r,store:=Fz s.store x y } := by
  have e0:deed ((28:Nat):Int) a s = { s with stack:=(s.stack.drop 2),store:=Fz s.store (s.stack.getD 1 0) (s.stack.getD 0 0) } := rfl;rw[e0,hs];rfl
 rw[e];exact Vg w mb O L s h a x y r hs
theorem dc29 (h:MaL w mb O L s) (hc:CanDo 29 a s) (_hb:DeedBox w O bs 29):Ay w mb O s 29 a bs:=by
 obtain⟨x,r,hs⟩:=st1 (l:=s.stack) (by have:=hc.st;simpa [takes] using this);refine⟨_,rfl,(Ao Tryz.func204 (by kernel_rfl) rfl),?_⟩;have e:deed ((29:Nat):Int) a s=push (Jm s s.cur x) { s with stack:=r } := by
  have e0:deed ((29:Nat):Int) a s=push (Jm s s.cur (s.stack.getD 0 0)) { s with stack:=(s.stack.drop 1) } := rfl;rw[e0,hs];rfl
 rw[e];exact Zbd w mb O L s h a x r hs
theorem dc30 (h:MaL w mb O L s) (hc:CanDo 30 a s) (_hb:DeedBox w O bs 30):Ay w mb O s 30 a bs:=by
 obtain⟨x,r,hs⟩:=st1 (l:=s.stack) (by have:=hc.st;simpa [takes] using this);refine⟨_,rfl,(Ao Tryz.func206 (by kernel_rfl) rfl),?_⟩;have e:deed ((30:Nat):Int) a s=push (Jm s s.org x) { s with stack:=r } := by
  have e0:deed ((30:Nat):Int) a s=push (Jm s s.org (s.stack.getD 0 0)) { s with stack:=(s.stack.drop 1) } := rfl;rw[e0,hs];rfl
 rw[e];exact Zaj w mb O L s h a x r hs
theorem dc31 (h:MaL w mb O L s) (hc:CanDo 31 a s) (_hb:DeedBox w O bs 31):Ay w mb O s 31 a bs:=by
 obtain⟨y,x,r,hs⟩:=st2 (l:=s.stack) (by have:=hc.st;simpa [takes] using this);refine⟨_,rfl,(Ao Tryz.func207 (by kernel_rfl) rfl),?_⟩;have e:deed ((31:Nat):Int) a s=Nj s r x y:=by
  have e0:deed ((31:Nat):Int) a s=Nj s (s.stack.drop 2) (s.stack.getD 1 0) (s.stack.getD 0 0):=rfl;rw[e0,hs];rfl
 rw[e];exact Wl w mb O L s h a x y r hs
theorem dc32 (h:MaL w mb O L s) (hc:CanDo 32 a s) (_hb:DeedBox w O bs 32):Ay w mb O s 32 a bs:=by
 obtain⟨y,x,r,hs⟩:=st2 (l:=s.stack) (by have:=hc.st;simpa [takes] using this);refine⟨_,rfl,(Ao Tryz.func209 (by kernel_rfl) rfl),?_⟩;have e:deed ((32:Nat):Int) a s=Zbv s r x y:=by
  have e0:deed ((32:Nat):Int) a s=Zbv s (s.stack.drop 2) (s.stack.getD 1 0) (s.stack.getD 0 0):=rfl;rw[e0,hs];rfl
 rw[e];exact Zx w mb O L s h a x y r hs
theorem dc33 (h:MaL w mb O L s) (hc:CanDo 33 a s) (_hb:DeedBox w O bs 33):Ay w mb O s 33 a bs:=by
 obtain⟨y,x,r,hs⟩:=st2 (l:=s.stack) (by have:=hc.st;simpa [takes] using this);refine⟨_,rfl,(Ao Tryz.func211 (by kernel_rfl) rfl),?_⟩;have e:deed ((33:Nat):Int) a s=Ie s r x y:=by
  have e0:deed ((33:Nat):Int) a s=Ie s (s.stack.drop 2) (s.stack.getD 1 0) (s.stack.getD 0 0):=rfl;rw[e0,hs];rfl
 rw[e];exact Ub w mb O L s h a x y r hs
theorem dc34 (h:MaL w mb O L s) (_hc:CanDo 34 a s) (_hb:DeedBox w O bs 34):Ay w mb O s 34 a bs:=by
 refine⟨_,rfl,(Ao Tryz.func213 (by kernel_rfl) rfl),?_⟩;have e:deed ((34:Nat):Int) a s=Ki s (a % 2):=rfl;rw[e];exact Tp w mb O L s h a
theorem dc35 (h:MaL w mb O L s) (hc:CanDo 35 a s) (_hb:DeedBox w O bs 35):Ay w mb O s 35 a bs:=by
 obtain⟨f,r,hf,h0,hn⟩:=hc.jump (.inl rfl);obtain⟨m,rfl⟩:=Int.eq_ofNat_of_zero_le h0;refine⟨_,rfl,(Ao Tryz.func215 (by kernel_rfl) rfl),?_⟩;have e:deed ((35:Nat):Int) (m:Int) s=pass s m:=rfl;rw[e];exact Wy w mb O L s h f r hf m (by simpa using hn)
theorem dc36 (h:MaL w mb O L s) (hc:CanDo 36 a s) (_hb:DeedBox w O bs 36):Ay w mb O s 36 a bs:=by
 obtain⟨f,r,hf,h0,hn⟩:=hc.jump (.inr rfl);obtain⟨m,rfl⟩:=Int.eq_ofNat_of_zero_le h0;obtain⟨x,l,hs⟩:=st1 (l:=s.stack) (by have:=hc.st;simpa [takes] using this);refine⟨_,rfl,(Ao Tryz.func217 (by kernel_rfl) rfl),?_⟩;have e:deed ((36:Nat):Int) (m:Int) s=Hy s l x m:=by
  have e0:deed ((36:Nat):Int) (m:Int) s=Hy s (s.stack.drop 1) (s.stack.getD 0 0) m:=rfl;rw[e0,hs];rfl
 rw[e];exact Tk w mb O L s h x l hs f r hf m (by simpa using hn)
theorem dc37 (h:MaL w mb O L s) (hc:CanDo 37 a s) (_hb:DeedBox w O bs 37):Ay w mb O s 37 a bs:=by
 obtain⟨h0,hl,hfl⟩:=hc.call (.inl rfl);obtain⟨m,rfl⟩:=Int.eq_ofNat_of_zero_le h0;refine⟨_,rfl,(Ao Tryz.func219 (by kernel_rfl) rfl),?_⟩;have e:deed ((37:Nat):Int) (m:Int) s=call s m 1:=rfl;rw[e];exact Tz w mb O L s h m (by simpa using hl) hfl
theorem dc38 (h:MaL w mb O L s) (hc:CanDo 38 a s) (_hb:DeedBox w O bs 38):Ay w mb O s 38 a bs:=by
 obtain⟨h0,hl,hfl⟩:=hc.call (.inr rfl);obtain⟨m,rfl⟩:=Int.eq_ofNat_of_zero_le h0;obtain⟨x,l,hs⟩:=st1 (l:=s.stack) (by have:=hc.st;simpa [takes] using this);refine⟨_,rfl,(Ao Tryz.func221 (by kernel_rfl) rfl),?_⟩;have e:deed ((38:Nat):Int) (m:Int) s=call { s with stack:=l } m (min x 16):=by
  have e0:deed ((38:Nat):Int) (m:Int) s=call { s with stack:=s.stack.drop 1 } m (min (s.stack.getD 0 0) 16):=rfl;rw[e0,hs];rfl
 rw[e];exact Wt w mb O L s h x l hs m (by simpa using hl) hfl
theorem dc39 (h:MaL w mb O L s) (hc:CanDo 39 a s) (_hb:DeedBox w O bs 39):Ay w mb O s 39 a bs:=by
 refine⟨_,rfl,(Ao Tryz.func223 (by kernel_rfl) rfl),?_⟩;have e:deed ((39:Nat):Int) a s=push s.size s:=rfl;rw[e];exact Uy w mb O L s h a (by have:=hc.lv;simp[takes,leaves] at this;omega)
theorem Zbk (h:MaL w mb O L s) {n:Nat} (h1:1≤n) (h2:n≤39) (hc:CanDo n a s) (hb:DeedBox w O bs n):Ay w mb O s n a bs:=by
 match n,h1,h2,hc,hb with
 | 1,_,_,hc,hb=>exact dc1 h hc hb
 | 2,_,_,hc,hb=>exact dc2 h hc hb
 | 3,_,_,hc,hb=>exact dc3 h hc hb
 | 4,_,_,hc,hb=>exact dc4 h hc hb
 | 5,_,_,hc,hb=>exact dc5 h hc hb
 | 6,_,_,hc,hb=>exact dc6 h hc hb
 | 7,_,_,hc,hb=>exact dc7 h hc hb
 | 8,_,_,hc,hb=>exact dc8 h hc hb
 | 9,_,_,hc,hb=>exact dc9 h hc hb
 | 10,_,_,hc,hb=>exact dc10 h hc hb
 | 11,_,_,hc,hb=>exact dc11 h hc hb
 | 12,_,_,hc,hb=>exact dc12 h hc hb
 | 13,_,_,hc,hb=>exact dc13 h hc hb
 | 14,_,_,hc,hb=>exact dc14 h hc hb
 | 15,_,_,hc,hb=>exact dc15 h hc hb
 | 16,_,_,hc,hb=>exact dc16 h hc hb
 | 17,_,_,hc,hb=>exact dc17 h hc hb
 | 18,_,_,hc,hb=>exact dc18 h hc hb
 | 19,_,_,hc,hb=>exact dc19 h hc hb
 | 20,_,_,hc,hb=>exact dc20 h hc hb
 | 21,_,_,hc,hb=>exact dc21 h hc hb
 | 22,_,_,hc,hb=>exact dc22 h hc hb
 | 23,_,_,hc,hb=>exact dc23 h hc hb
 | 24,_,_,hc,hb=>exact dc24 h hc hb
 | 25,_,_,hc,hb=>exact dc25 h hc hb
 | 26,_,_,hc,hb=>exact dc26 h hc hb
 | 27,_,_,hc,hb=>exact dc27 h hc hb
 | 28,_,_,hc,hb=>exact dc28 h hc hb
 | 29,_,_,hc,hb=>exact dc29 h hc hb
 | 30,_,_,hc,hb=>exact dc30 h hc hb
 | 31,_,_,hc,hb=>exact dc31 h hc hb
 | 32,_,_,hc,hb=>exact dc32 h hc hb
 | 33,_,_,hc,hb=>exact dc33 h hc hb
 | 34,_,_,hc,hb=>exact dc34 h hc hb
 | 35,_,_,hc,hb=>exact dc35 h hc hb
 | 36,_,_,hc,hb=>exact dc36 h hc hb
 | 37,_,_,hc,hb=>exact dc37 h hc hb
 | 38,_,_,hc,hb=>exact dc38 h hc hb
 | 39,_,_,hc,hb=>exact dc39 h hc hb
 | n+40,_,h2,_,_=>omega
end
end Go.Proofs.YtnhebmgibiomnaaGreat
namespace Go.Proofs.YtnhebmgibiomnaaGreat
open Go.RowKit Mc Go.ChangeMaps
def Ge:Nat→Nat
 | 0=>1
 | 1=>39
 | 2=>40
 | 3=>5
 | 4=>6
 | 5=>7
 | 6=>8
 | 7=>9
 | 8=>10
 | 9=>11
 | 10=>12
 | 11=>13
 | 12=>14
 | 13=>15
 | 14=>16
 | 15=>17
 | 16=>18
 | 17=>19
 | 18=>20
 | 19=>21
 | 20=>25
 | 21=>26
 | 22=>27
 | 23=>28
 | 24=>22
 | 25=>23
 | 26=>24
 | 27=>29
 | 28=>30
 | 29=>31
 | 30=>32
 | 31=>33
 | 32=>34
 | 33=>35
 | 34=>36
 | _=>41
def Zfk:Nat→Fn×Option (TypeId×Fn)
 | 0=>(.func 102,none)
 | 1=>(.func 103,none)
 | 2=>(.func 224,some (117,.func 105))
 | 3=>(.func 225,some (74,.func 107))
 | 4=>(.func 225,some (74,.func 108))
 | 5=>(.func 225,some (74,.func 109))
 | 6=>(.func 225,some (74,.func 110))
 | 7=>(.func 224,some (117,.func 112))
 | 8=>(.func 224,some (117,.func 113))
 | 9=>(.func 225,some (74,.func 114))
 | 10=>(.func 225,some (74,.func 115))
 | 11=>(.func 224,some (117,.func 116))
 | 12=>(.func 224,some (117,.func 118))
 | 13=>(.func 119,none)
 | 14=>(.func 225,some (74,.func 120))
 | 15=>(.func 225,some (74,.func 122))
 | 16=>(.func 225,some (74,.func 123))
 | 17=>(.func 224,some (117,.func 124))
 | 18=>(.func 225,some (74,.func 125))
 | 19=>(.func 225,some (74,.func 126))
 | 20=>(.func 127,none)
 | 21=>(.func 129,none)
 | 22=>(.func 131,none)
 | 23=>(.func 132,none)
 | 24=>(.func 133,none)
 | 25=>(.func 135,none)
 | 26=>(.func 136,none)
 | 27=>(.func 137,none)
 | 28=>(.func 139,none)
 | 29=>(.func 140,none)
 | 30=>(.func 142,none)
 | 31=>(.func 144,none)
 | 32=>(.func 146,none)
 | 33=>(.func 148,none)
 | 34=>(.func 149,none)
 | _=>(.func 151,none)
def doV (bs:Nat→Nat) (i:Nat):Value:=.func (Zfk i).1 #[] (match (Zfk i).2 with|some _=>#[.pointer (some ⟨bs i,0,none⟩)]|none=>#[])
def Rn (bs:Nat→Nat) (n:Nat):List MapEntry:=(List.range n).map fun i=>⟨.int .i64 (Ge i:Int),doV bs i,i⟩
def DoBox (w:World) (O:Nat→Prop) (bs:Nat→Nat) (i:Nat):Prop:=match (Zfk i).2 with|some (t,f)=>O (bs i)∧Blk w (bs i) t #[.func f #[] #[]]|none=>True
theorem Rl:∀ i,i<36→∀ j,j<i→Ge i≠Ge j:=by decide
theorem Rm:∀ k:Nat,k<43→(Sr.uses (k:Int)).2=true→k≠42→∃ i,i<36∧Ge i=k:=by decide
def DoI (w0:World) (n:Nat) (W:World):Prop :=
 ∃ bs,W.heap[w0.heap.size]?=some (.map (Rn bs n).toArray n)∧(∀ i,i<n→DoBox W (fun k=>w0.heap.size<k∧k<W.heap.size) bs i)∧Below w0.heap.size w0 W
theorem Xv (bs:Nat→Nat) (n:Nat):Rn bs (n+1)=Rn bs n++[⟨.int .i64 (Ge n:Int),doV bs n,n⟩]:=by
 unfold Rn;rw[List.range_succ,List.map_append];rfl
theorem Ty {bs bs':Nat→Nat} {n:Nat} (h:∀ i,i<n→bs i=bs' i):Rn bs n=Rn bs' n:=by
 unfold Rn;refine List.map_congr_left fun i hi=>?_
 have:=List.mem_range.1 hi;unfold doV;rw[h i this]
theorem Xw {bs:Nat→Nat} {n:Nat} (hn:n<36):∀ e∈(Rn bs n),∃ b,e.key=.int .i64 b∧(Ge n:Int)≠b:=by
 intro e he;unfold Rn at he;obtain⟨i,hi,rfl⟩:=List.mem_map.1 he;have:=List.mem_range.1 hi;exact⟨_,rfl,by have:=Rl n hn i this;omega⟩
theorem DoBox.keep {W W':World} {O O':Nat→Prop} {bs bs':Nat→Nat} {i:Nat} (h:DoBox W O bs i) (hb:bs i=bs' i) (hk:∀ g t cs,Blk W g t cs→O g→Blk W' g t cs) (hO:∀ k,O k→O' k):DoBox W' O' bs' i:=by
 unfold DoBox at h ⊢;split at h
 ·exact⟨hO _ (hb ▸ h.1),hk _ _ _ (hb ▸ h.2) (hb ▸ h.1)⟩
 ·trivial
theorem DoI.add {w0 W:World} {n:Nat} (h:DoI w0 n W) (hn:n<36) (v:Value) (b:Nat) (hv:v=doV (fun _=>b) n) (hbox:DoBox W (fun k=>w0.heap.size<k∧k<W.heap.size) (fun _=>b) n) :
  ∃ es,W.heap[w0.heap.size]?=some (.map es n)∧(∀ e∈es.toList,∃ b,e.key=.int .i64 b∧(Ge n:Int)≠b)∧DoI w0 (n+1) (setBlock W w0.heap.size (.map (es.push ⟨.int .i64 (Ge n:Int),v,n⟩) (n+1))):=by
 obtain⟨bs,h1,h2,h3⟩:=h;have hlt:w0.heap.size<W.heap.size:=(Array.getElem?_eq_some_iff.1 h1).1;refine⟨_,h1,Xw hn,fun i=>if i=n then b else bs i,?_,?_,?_⟩
 ·simp only[setBlock];rw[Array.getElem?_setIfInBounds_self_of_lt hlt,Xv,Ty (bs:=fun i=>if i=n then b else bs i) (bs':=bs) (fun i hi=>by rw[if_neg (by omega)])];subst hv;unfold doV;simp
 ·intro i hi;have hz:∀ k,(w0.heap.size<k∧k<W.heap.size)→(w0.heap.size<k∧k<(setBlock W w0.heap.size (.map ((Rn bs n).toArray.push ⟨.int .i64 (Ge n:Int),v,n⟩) (n+1))).heap.size):=fun k hk=>by simpa [setBlock] using hk
  by_cases hne:i=n
  ·subst hne;exact hbox.keep (by simp) (fun g t cs hb _=>Ei h1 hb) hz
  ·exact(h2 i (by omega)).keep (by rw[if_neg hne]) (fun g t cs hb _=>Ei h1 hb) hz
 ·exact⟨h3.os,h3.tape,h3.output,by simpa [setBlock] using h3.size,fun k hk=>by
   simp only[setBlock];rw[Array.getElem?_setIfInBounds_ne (by omega)];exact h3.block k hk⟩
theorem DoI.lt {w0 W:World} {n:Nat} (h:DoI w0 n W):w0.heap.size<W.heap.size:=by
 obtain⟨bs,h1,_⟩:=h;exact(Array.getElem?_eq_some_iff.1 h1).1
theorem DoI.alloc {w0 W:World} {n:Nat} (h:DoI w0 n W) (o:Obj):DoI w0 n (W.alloc o):=by
 have hlt:=h.lt;obtain⟨bs,h1,h2,h3⟩:=h;exact⟨bs,(Below.heap_alloc W o _ hlt).trans h1,fun i a=>(h2 i a).keep rfl (fun g t cs hb _=>hb.alloc o) (fun k hk=>⟨hk.1,by have:=hk.2;simp;omega⟩),h3.alloc (by omega) o⟩
theorem Mi {ops:Array Oper} {rest:List Oper} {o:Oper} {a:Act} {Q:Exit→Act→World→Prop} (w0 W:World) (n:Nat) (hn:n<36) (hgd:o.guard=none) (m k x:Operand) (ho:o.op=.insert 158 m k x) (hdst:o.dst=none)
  (hm:a.eval m=.map (some w0.heap.size)) (hkv:a.eval k=.int .i64 (Ge n:Int)) (v:Value) (hx:a.eval x=v) (b:Nat) (hd:DoI w0 n W) (hv:v=doV (fun _=>b) n) (hbox:DoBox W (fun k=>w0.heap.size<k∧k<W.heap.size) (fun _=>b) n)
  (h:∀ W',DoI w0 (n+1) W'→wpList Tryz.prog ops Q rest a W'):wpList Tryz.prog ops Q (o::rest) a W:=by
 refine wpList_plain hgd fun K' hK'=>?_
 obtain⟨es,h1,h2,h3⟩:=hd.add hn v b hv hbox;have h4:=h _ h3;generalize (Ge n:Int)=X at *;unfold Oper.wp;simp only[execOp,ho,hm,hkv,hx];simp[Gh (P:=Tryz.prog) (w:=W) Tryz.underlying158 Tryz.underlying3 h1 (v:=v) h2,Result.andThen];unfold Oper.upon;exact hK' _ _ (by rw[hdst];exact h4)
theorem DoI.start (w:World):DoI w 0 (w.alloc (.map #[] 0)) :=
 ⟨fun _=>0,heap_alloc_new w _,fun i h1=>by omega,aliasBr.alloc Ad _⟩
def DoB (w0:World) (n b:Nat) (t:TypeId) (f:Fn) (W:World):Prop:=DoI w0 n W∧(w0.heap.size<b∧b<W.heap.size)∧Blk W b t #[.func f #[] #[]]
theorem DoI.box {w0 W:World} {n:Nat} (h:DoI w0 n W) (f:Fn) (t:TypeId):DoB w0 n W.heap.size t f (W.alloc (.cells #[.func f #[] #[]] t)) :=
 ⟨h.alloc _,⟨h.lt,by simp⟩,Blk.new _ _ _⟩
theorem Zcv {w0 W:World} {n:Nat} (h:DoI w0 n W) (f:Fn):Calls Tryz.prog 106 #[.func f #[] #[]] W fun e w'=>e=.returned (.func (.func 225) #[] #[.pointer (some ⟨W.heap.size,0,none⟩)])∧DoB w0 n W.heap.size 74 f w':=by
 have HB:=Aa (h.box f 74);clear h;go_enter Tryz.func106,Tryz.ntmps106;go_wp2;go_ret;exact⟨rfl,HB.out⟩
theorem Zeg {w0 W:World} {n:Nat} (h:DoI w0 n W) (f:Fn):Calls Tryz.prog 104 #[.func f #[] #[]] W fun e w'=>e=.returned (.func (.func 224) #[] #[.pointer (some ⟨W.heap.size,0,none⟩)])∧DoB w0 n W.heap.size 117 f w':=by
 have HB:=Aa (h.box f 117);clear h;go_enter Tryz.func104,Tryz.ntmps104;go_wp2;go_ret;exact⟨rfl,HB.out⟩
attribute [local go_sem] Ja
theorem Tx (w:World):Calls Tryz.prog 73 #[] w fun e w'=>e=.returned (.map (some w.heap.size))∧DoI w 36 w':=by
 go_enter Tryz.func73,Tryz.ntmps73;have HD:=Aa (DoI.start w);go_wp2_with (first
  | (refine Mi _ _ _ (by decide) rfl _ _ _ rfl rfl rfl rfl _ rfl 0 HD.out rfl trivial ?_;intro W hW;clear HD;have HD:=Aa hW;clear hW)
  | (refine Mi _ _ _ (by decide) rfl _ _ _ rfl rfl rfl rfl _ rfl _ HD.out.1 rfl HD.out.2 ?_;intro W hW;clear HD;have HD:=Aa hW;clear hW)
  | (go_at_call 106;refine(Zcv HD.out _).mono ?_;rintro e w9 ⟨rfl,hd⟩;clear HD;have HD:=Aa hd;clear hd)
  | (go_at_call 104;refine(Zeg HD.out _).mono ?_;rintro e w9 ⟨rfl,hd⟩;clear HD;have HD:=Aa hd;clear hd))
 go_ret;exact⟨rfl,HD.out⟩
theorem do34 (w:World) (sb:Nat) (L:SLay) (s:Sr.St) (h:SrL w sb L s) (op n d a b:Int):Calls Tryz.prog 146 #[.pointer (some ⟨sb,0,none⟩),Cu ⟨op,d,a,b,n⟩] w (SPost w sb L { s with m:=Ki s.m (n % 2) }):=by
 unfold Cu;have HC:=Aa (fun o:Obj=>So (w.alloc o) sb L s (h.alloc o) (n % 2) (by omega));have HF:=Aa (fun o:Obj=>(Fr.refl (SrS L sb) w).alloc o);clear h;go_enter Tryz.func146,Tryz.ntmps146;go_wp2_with fail
 refine(Gr _ 2 _ (by decide) (by decide)).mono ?_;rintro e w1 ⟨rfl,rfl⟩;go_wp2_with fail
 refine(HC.out _).mono ?_;intro e w9 hp;have HP:=Aa (hp.from_ (HF.out _));obtain⟨rfl,_⟩:=hp;go_wp2;go_end0;exact HP.out
structure Sr.Reg.Can (r:Sr.Reg) (s:Sr.St):Prop where
 d:(Sr.uses r.op).1 % 2=1→∃ d:Nat,r.d=d∧d<64
 a:(Sr.uses r.op).1 / 2 % 2=1→∃ a:Nat,r.a=a∧a<64
 b:(Sr.uses r.op).1 / 4 % 2=1→∃ b:Nat,r.b=b∧b<64
 n:Sr.leaps r.op=true→∃ n:Nat,r.n=n∧s.pc+n≤1000000
def Bz (w:World) (sb:Nat) (L:SLay) (s:Sr.St) (i:Nat) (r:Sr.Reg) (bs:Nat→Nat):Prop :=
 ∃ id,(Zfk i).1=.func id∧(∀ args w,Sem.run Tryz.prog (callFunc id args) w=.ok (.enter id args) w) ∧
  Calls Tryz.prog id (match (Zfk i).2 with|some _=>#[.pointer (some ⟨sb,0,none⟩),Cu r,.pointer (some ⟨bs i,0,none⟩)]|none=>#[.pointer (some ⟨sb,0,none⟩),Cu r]) w (SPost w sb L (Sr.deed r s))
section
variable {w : World} {sb : Nat} {L : SLay} {s : Sr.St} {r : Sr.Reg} {bs : Nat → Nat} {O : Nat → Prop}
theorem dk1 (h:SrL w sb L s) (hr:r.op=1) (hc:r.Can s) (_hb:DoBox w O bs 0):Bz w sb L s 0 r bs:=by
 obtain⟨op,d,a,b,n⟩:=r;simp only at hr;subst hr;obtain⟨d',e,hd⟩:=hc.d rfl;simp only at e;subst e;refine⟨_,rfl,(Ao Tryz.func102 (by kernel_rfl) rfl),?_⟩;exact do1 w sb L s h _ n a b d' hd
theorem dk39 (h:SrL w sb L s) (hr:r.op=39) (hc:r.Can s) (_hb:DoBox w O bs 1):Bz w sb L s 1 r bs:=by
 obtain⟨op,d,a,b,n⟩:=r;simp only at hr;subst hr;obtain⟨d',e,hd⟩:=hc.d rfl;simp only at e;subst e;refine⟨_,rfl,(Ao Tryz.func103 (by kernel_rfl) rfl),?_⟩;exact do39 w sb L s h _ n a b d' hd
theorem dk40 (h:SrL w sb L s) (hr:r.op=40) (hc:r.Can s) (hb:DoBox w O bs 2):Bz w sb L s 2 r bs:=by
 obtain⟨op,d,a,b,n⟩:=r;simp only at hr;subst hr;obtain⟨d',e,hd⟩:=hc.d rfl;simp only at e;subst e;obtain⟨a',e,ha⟩:=hc.a rfl;simp only at e;subst e;refine⟨_,rfl,(Ao Tryz.func224 (by kernel_rfl) rfl),?_⟩;exact Fy w sb L s h _ n d' a' b hd ha (bs 2) _ hb.2 _ (Ao Tryz.func105 (by kernel_rfl) rfl) (fun w=>s40 _ w)
theorem dk5 (h:SrL w sb L s) (hr:r.op=5) (hc:r.Can s) (hb:DoBox w O bs 3):Bz w sb L s 3 r bs:=by
 obtain⟨op,d,a,b,n⟩:=r;simp only at hr;subst hr;obtain⟨d',e,hd⟩:=hc.d rfl;simp only at e;subst e;obtain⟨a',e,ha⟩:=hc.a rfl;simp only at e;subst e;obtain⟨b',e,hb'⟩:=hc.b rfl;simp only at e;subst e;refine⟨_,rfl,(Ao Tryz.func225 (by kernel_rfl) rfl),?_⟩;exact Cv w sb L s h _ n d' a' b' hd ha hb' (bs 3) _ hb.2 _ (Ao Tryz.func107 (by kernel_rfl) rfl) (fun w=>s5 _ _ w (h.rk ha) (h.rk hb'))
theorem dk6 (h:SrL w sb L s) (hr:r.op=6) (hc:r.Can s) (hb:DoBox w O bs 4):Bz w sb L s 4 r bs:=by
 obtain⟨op,d,a,b,n⟩:=r;simp only at hr;subst hr;obtain⟨d',e,hd⟩:=hc.d rfl;simp only at e;subst e;obtain⟨a',e,ha⟩:=hc.a rfl;simp only at e;subst e;obtain⟨b',e,hb'⟩:=hc.b rfl;simp only at e;subst e;refine⟨_,rfl,(Ao Tryz.func225 (by kernel_rfl) rfl),?_⟩;exact Cv w sb L s h _ n d' a' b' hd ha hb' (bs 4) _ hb.2 _ (Ao Tryz.func108 (by kernel_rfl) rfl) (fun w=>s6 _ _ w (h.rk ha) (h.rk hb'))
theorem dk7 (h:SrL w sb L s) (hr:r.op=7) (hc:r.Can s) (hb:DoBox w O bs 5):Bz w sb L s 5 r bs:=by
 obtain⟨op,d,a,b,n⟩:=r;simp only at hr;subst hr;obtain⟨d',e,hd⟩:=hc.d rfl;simp only at e;subst e;obtain⟨a',e,ha⟩:=hc.a rfl;simp only at e;subst e;obtain⟨b',e,hb'⟩:=hc.b rfl;simp only at e;subst e;refine⟨_,rfl,(Ao Tryz.func225 (by kernel_rfl) rfl),?_⟩;exact Cv w sb L s h _ n d' a' b' hd ha hb' (bs 5) _ hb.2 _ (Ao Tryz.func109 (by kernel_rfl) rfl) (fun w=>s7 _ _ w (h.rk ha) (h.rk hb'))
theorem dk8 (h:SrL w sb L s) (hr:r.op=8) (hc:r.Can s) (hb:DoBox w O bs 6):Bz w sb L s 6 r bs:=by
 obtain⟨op,d,a,b,n⟩:=r;simp only at hr;subst hr;obtain⟨d',e,hd⟩:=hc.d rfl;simp only at e;subst e;obtain⟨a',e,ha⟩:=hc.a rfl;simp only at e;subst e;obtain⟨b',e,hb'⟩:=hc.b rfl;simp only at e;subst e;refine⟨_,rfl,(Ao Tryz.func225 (by kernel_rfl) rfl),?_⟩;exact Cv w sb L s h _ n d' a' b' hd ha hb' (bs 6) _ hb.2 _ (Ao Tryz.func110 (by kernel_rfl) rfl) (fun w=>s8 _ _ w (h.rk ha) (h.rk hb'))
theorem dk9 (h:SrL w sb L s) (hr:r.op=9) (hc:r.Can s) (hb:DoBox w O bs 7):Bz w sb L s 7 r bs:=by
 obtain⟨op,d,a,b,n⟩:=r;simp only at hr;subst hr;obtain⟨d',e,hd⟩:=hc.d rfl;simp only at e;subst e;obtain⟨a',e,ha⟩:=hc.a rfl;simp only at e;subst e;refine⟨_,rfl,(Ao Tryz.func224 (by kernel_rfl) rfl),?_⟩;exact Fy w sb L s h _ n d' a' b hd ha (bs 7) _ hb.2 _ (Ao Tryz.func112 (by kernel_rfl) rfl) (fun w=>s9 _ w (h.rk ha))
theorem dk10 (h:SrL w sb L s) (hr:r.op=10) (hc:r.Can s) (hb:DoBox w O bs 8):Bz w sb L s 8 r bs:=by
 obtain⟨op,d,a,b,n⟩:=r;simp only at hr;subst hr;obtain⟨d',e,hd⟩:=hc.d rfl;simp only at e;subst e;obtain⟨a',e,ha⟩:=hc.a rfl;simp only at e;subst e;refine⟨_,rfl,(Ao Tryz.func224 (by kernel_rfl) rfl),?_⟩;exact Fy w sb L s h _ n d' a' b hd ha (bs 8) _ hb.2 _ (Ao Tryz.func113 (by kernel_rfl) rfl) (fun w=>s10 _ w (h.rk ha))
theorem dk11 (h:SrL w sb L s) (hr:r.op=11) (hc:r.Can s) (hb:DoBox w O bs 9):Bz w sb L s 9 r bs:=by
 obtain⟨op,d,a,b,n⟩:=r;simp only at hr;subst hr;obtain⟨d',e,hd⟩:=hc.d rfl;simp only at e;subst e;obtain⟨a',e,ha⟩:=hc.a rfl;simp only at e;subst e;obtain⟨b',e,hb'⟩:=hc.b rfl;simp only at e;subst e;refine⟨_,rfl,(Ao Tryz.func225 (by kernel_rfl) rfl),?_⟩;exact Cv w sb L s h _ n d' a' b' hd ha hb' (bs 9) _ hb.2 _ (Ao Tryz.func114 (by kernel_rfl) rfl) (fun w=>s11 _ _ w (h.rk ha) (h.rk hb'))
theorem dk12 (h:SrL w sb L s) (hr:r.op=12) (hc:r.Can s) (hb:DoBox w O bs 10):Bz w sb L s 10 r bs:=by
 obtain⟨op,d,a,b,n⟩:=r;simp only at hr;subst hr;obtain⟨d',e,hd⟩:=hc.d rfl;simp only at e;subst e;obtain⟨a',e,ha⟩:=hc.a rfl;simp only at e;subst e;obtain⟨b',e,hb'⟩:=hc.b rfl;simp only at e;subst e;refine⟨_,rfl,(Ao Tryz.func225 (by kernel_rfl) rfl),?_⟩;exact Cv w sb L s h _ n d' a' b' hd ha hb' (bs 10) _ hb.2 _ (Ao Tryz.func115 (by kernel_rfl) rfl) (fun w=>s12 _ _ w (h.rk ha) (h.rk hb'))
theorem dk13 (h:SrL w sb L s) (hr:r.op=13) (hc:r.Can s) (hb:DoBox w O bs 11):Bz w sb L s 11 r bs:=by
 obtain⟨op,d,a,b,n⟩:=r;simp only at hr;subst hr;obtain⟨d',e,hd⟩:=hc.d rfl;simp only at e;subst e;obtain⟨a',e,ha⟩:=hc.a rfl;simp only at e;subst e;refine⟨_,rfl,(Ao Tryz.func224 (by kernel_rfl) rfl),?_⟩;exact Fy w sb L s h _ n d' a' b hd ha (bs 11) _ hb.2 _ (Ao Tryz.func116 (by kernel_rfl) rfl) (fun w=>s13 _ w (h.rk ha))
theorem dk14 (h:SrL w sb L s) (hr:r.op=14) (hc:r.Can s) (hb:DoBox w O bs 12):Bz w sb L s 12 r bs:=by
 obtain⟨op,d,a,b,n⟩:=r;simp only at hr;subst hr;obtain⟨d',e,hd⟩:=hc.d rfl;simp only at e;subst e;obtain⟨a',e,ha⟩:=hc.a rfl;simp only at e;subst e;refine⟨_,rfl,(Ao Tryz.func224 (by kernel_rfl) rfl),?_⟩;exact Fy w sb L s h _ n d' a' b hd ha (bs 12) _ hb.2 _ (Ao Tryz.func118 (by kernel_rfl) rfl) (fun w=>s14 _ w (h.rk ha))
theorem dk15 (h:SrL w sb L s) (hr:r.op=15) (hc:r.Can s) (_hb:DoBox w O bs 13):Bz w sb L s 13 r bs:=by
 obtain⟨op,d,a,b,n⟩:=r;simp only at hr;subst hr;obtain⟨d',e,hd⟩:=hc.d rfl;simp only at e;subst e;obtain⟨a',e,ha⟩:=hc.a rfl;simp only at e;subst e;refine⟨_,rfl,(Ao Tryz.func119 (by kernel_rfl) rfl),?_⟩;exact do15 w sb L s h _ n b d' a' hd ha
theorem dk16 (h:SrL w sb L s) (hr:r.op=16) (hc:r.Can s) (hb:DoBox w O bs 14):Bz w sb L s 14 r bs:=by
 obtain⟨op,d,a,b,n⟩:=r;simp only at hr;subst hr;obtain⟨d',e,hd⟩:=hc.d rfl;simp only at e;subst e;obtain⟨a',e,ha⟩:=hc.a rfl;simp only at e;subst e;obtain⟨b',e,hb'⟩:=hc.b rfl;simp only at e;subst e;refine⟨_,rfl,(Ao Tryz.func225 (by kernel_rfl) rfl),?_⟩;exact Cv w sb L s h _ n d' a' b' hd ha hb' (bs 14) _ hb.2 _ (Ao Tryz.func120 (by kernel_rfl) rfl) (fun w=>s16 _ _ w (h.rk ha) (h.rk hb'))
theorem dk17 (h:SrL w sb L s) (hr:r.op=17) (hc:r.Can s) (hb:DoBox w O bs 15):Bz w sb L s 15 r bs:=by
 obtain⟨op,d,a,b,n⟩:=r;simp only at hr;subst hr;obtain⟨d',e,hd⟩:=hc.d rfl;simp only at e;subst e;obtain⟨a',e,ha⟩:=hc.a rfl;simp only at e;subst e;obtain⟨b',e,hb'⟩:=hc.b rfl;simp only at e;subst e;refine⟨_,rfl,(Ao Tryz.func225 (by kernel_rfl) rfl),?_⟩;exact Cv w sb L s h _ n d' a' b' hd ha hb' (bs 15) _ hb.2 _ (Ao Tryz.func122 (by kernel_rfl) rfl) (fun w=>s17 _ _ w (h.rk ha) (h.rk hb'))
theorem dk18 (h:SrL w sb L s) (hr:r.op=18) (hc:r.Can s) (hb:DoBox w O bs 16):Bz w sb L s 16 r bs:=by
 obtain⟨op,d,a,b,n⟩:=r;simp only at hr;subst hr;obtain⟨d',e,hd⟩:=hc.d rfl;simp only at e;subst e;obtain⟨a',e,ha⟩:=hc.a rfl;simp only at e;subst e;obtain⟨b',e,hb'⟩:=hc.b rfl;simp only at e;subst e;refine⟨_,rfl,(Ao Tryz.func225 (by kernel_rfl) rfl),?_⟩;exact Cv w sb L s h _ n d' a' b' hd ha hb' (bs 16) _ hb.2 _ (Ao Tryz.func123 (by kernel_rfl) rfl) (fun w=>s18 _ _ w (h.rk ha) (h.rk hb'))
theorem dk19 (h:SrL w sb L s) (hr:r.op=19) (hc:r.Can s) (hb:DoBox w O bs 17):Bz w sb L s 17 r bs:=by
 obtain⟨op,d,a,b,n⟩:=r;simp only at hr;subst hr;obtain⟨d',e,hd⟩:=hc.d rfl;simp only at e;subst e;obtain⟨a',e,ha⟩:=hc.a rfl;simp only at e;subst e;refine⟨_,rfl,(Ao Tryz.func224 (by kernel_rfl) rfl),?_⟩;exact Fy w sb L s h _ n d' a' b hd ha (bs 17) _ hb.2 _ (Ao Tryz.func124 (by kernel_rfl) rfl) (fun w=>s19 _ w (h.rk ha))
theorem dk20 (h:SrL w sb L s) (hr:r.op=20) (hc:r.Can s) (hb:DoBox w O bs 18):Bz w sb L s 18 r bs:=by
 obtain⟨op,d,a,b,n⟩:=r;simp only at hr;subst hr;obtain⟨d',e,hd⟩:=hc.d rfl;simp only at e;subst e;obtain⟨a',e,ha⟩:=hc.a rfl;simp only at e;subst e;obtain⟨b',e,hb'⟩:=hc.b rfl;simp only at e;subst e;refine⟨_,rfl,(Ao Tryz.func225 (by kernel_rfl) rfl),?_⟩;exact Cv w sb L s h _ n d' a' b' hd ha hb' (bs 18) _ hb.2 _ (Ao Tryz.func125 (by kernel_rfl) rfl) (fun w=>s20 _ _ w (h.rk ha) (h.rk hb'))
theorem dk21 (h:SrL w sb L s) (hr:r.op=21) (hc:r.Can s) (hb:DoBox w O bs 19):Bz w sb L s 19 r bs:=by
 obtain⟨op,d,a,b,n⟩:=r;simp only at hr;subst hr;obtain⟨d',e,hd⟩:=hc.d rfl;simp only at e;subst e;obtain⟨a',e,ha⟩:=hc.a rfl;simp only at e;subst e;obtain⟨b',e,hb'⟩:=hc.b rfl;simp only at e;subst e;refine⟨_,rfl,(Ao Tryz.func225 (by kernel_rfl) rfl),?_⟩;exact Cv w sb L s h _ n d' a' b' hd ha hb' (bs 19) _ hb.2 _ (Ao Tryz.func126 (by kernel_rfl) rfl) (fun w=>s21 _ _ w (h.rk ha) (h.rk hb'))
theorem dk25 (h:SrL w sb L s) (hr:r.op=25) (hc:r.Can s) (_hb:DoBox w O bs 20):Bz w sb L s 20 r bs:=by
 obtain⟨op,d,a,b,n⟩:=r;simp only at hr;subst hr;obtain⟨d',e,hd⟩:=hc.d rfl;simp only at e;subst e;obtain⟨a',e,ha⟩:=hc.a rfl;simp only at e;subst e;refine⟨_,rfl,(Ao Tryz.func127 (by kernel_rfl) rfl),?_⟩;exact do25 w sb L s h _ n b d' a' hd ha
theorem dk26 (h:SrL w sb L s) (hr:r.op=26) (hc:r.Can s) (_hb:DoBox w O bs 21):Bz w sb L s 21 r bs:=by
 obtain⟨op,d,a,b,n⟩:=r;simp only at hr;subst hr;obtain⟨a',e,ha⟩:=hc.a rfl;simp only at e;subst e;obtain⟨b',e,hb'⟩:=hc.b rfl;simp only at e;subst e;refine⟨_,rfl,(Ao Tryz.func129 (by kernel_rfl) rfl),?_⟩;exact do26 w sb L s h _ n d a' b' ha hb'
theorem dk27 (h:SrL w sb L s) (hr:r.op=27) (hc:r.Can s) (_hb:DoBox w O bs 22):Bz w sb L s 22 r bs:=by
 obtain⟨op,d,a,b,n⟩:=r;simp only at hr;subst hr;obtain⟨d',e,hd⟩:=hc.d rfl;simp only at e;subst e;obtain⟨a',e,ha⟩:=hc.a rfl;simp only at e;subst e;refine⟨_,rfl,(Ao Tryz.func131 (by kernel_rfl) rfl),?_⟩;exact do27 w sb L s h _ n b d' a' hd ha
theorem dk28 (h:SrL w sb L s) (hr:r.op=28) (hc:r.Can s) (_hb:DoBox w O bs 23):Bz w sb L s 23 r bs:=by
 obtain⟨op,d,a,b,n⟩:=r;simp only at hr;subst hr;obtain⟨a',e,ha⟩:=hc.a rfl;simp only at e;subst e;obtain⟨b',e,hb'⟩:=hc.b rfl;simp only at e;subst e;refine⟨_,rfl,(Ao Tryz.func132 (by kernel_rfl) rfl),?_⟩;exact do28 w sb L s h _ n d a' b' ha hb'
theorem dk22 (h:SrL w sb L s) (hr:r.op=22) (hc:r.Can s) (_hb:DoBox w O bs 24):Bz w sb L s 24 r bs:=by
 obtain⟨op,d,a,b,n⟩:=r;simp only at hr;subst hr;refine⟨_,rfl,(Ao Tryz.func133 (by kernel_rfl) rfl),?_⟩;exact do22 w sb L s h _ n d a b
theorem dk23 (h:SrL w sb L s) (hr:r.op=23) (hc:r.Can s) (_hb:DoBox w O bs 25):Bz w sb L s 25 r bs:=by
 obtain⟨op,d,a,b,n⟩:=r;simp only at hr;subst hr;refine⟨_,rfl,(Ao Tryz.func135 (by kernel_rfl) rfl),?_⟩;exact do23 w sb L s h _ n d a b
theorem dk24 (h:SrL w sb L s) (hr:r.op=24) (hc:r.Can s) (_hb:DoBox w O bs 26):Bz w sb L s 26 r bs:=by
 obtain⟨op,d,a,b,n⟩:=r;simp only at hr;subst hr;refine⟨_,rfl,(Ao Tryz.func136 (by kernel_rfl) rfl),?_⟩;exact do24 w sb L s h _ n d a b
theorem dk29 (h:SrL w sb L s) (hr:r.op=29) (hc:r.Can s) (_hb:DoBox w O bs 27):Bz w sb L s 27 r bs:=by
 obtain⟨op,d,a,b,n⟩:=r;simp only at hr;subst hr;obtain⟨d',e,hd⟩:=hc.d rfl;simp only at e;subst e;obtain⟨a',e,ha⟩:=hc.a rfl;simp only at e;subst e;refine⟨_,rfl,(Ao Tryz.func137 (by kernel_rfl) rfl),?_⟩;exact do29 w sb L s h _ n b d' a' hd ha
theorem dk30 (h:SrL w sb L s) (hr:r.op=30) (hc:r.Can s) (_hb:DoBox w O bs 28):Bz w sb L s 28 r bs:=by
 obtain⟨op,d,a,b,n⟩:=r;simp only at hr;subst hr;obtain⟨d',e,hd⟩:=hc.d rfl;simp only at e;subst e;obtain⟨a',e,ha⟩:=hc.a rfl;simp only at e;subst e;refine⟨_,rfl,(Ao Tryz.func139 (by kernel_rfl) rfl),?_⟩;exact do30 w sb L s h _ n b d' a' hd ha
theorem dk31 (h:SrL w sb L s) (hr:r.op=31) (hc:r.Can s) (_hb:DoBox w O bs 29):Bz w sb L s 29 r bs:=by
 obtain⟨op,d,a,b,n⟩:=r;simp only at hr;subst hr;obtain⟨a',e,ha⟩:=hc.a rfl;simp only at e;subst e;obtain⟨b',e,hb'⟩:=hc.b rfl;simp only at e;subst e;refine⟨_,rfl,(Ao Tryz.func140 (by kernel_rfl) rfl),?_⟩;exact do31 w sb L s h _ n d a' b' ha hb'
theorem dk32 (h:SrL w sb L s) (hr:r.op=32) (hc:r.Can s) (_hb:DoBox w O bs 30):Bz w sb L s 30 r bs:=by
 obtain⟨op,d,a,b,n⟩:=r;simp only at hr;subst hr;obtain⟨a',e,ha⟩:=hc.a rfl;simp only at e;subst e;obtain⟨b',e,hb'⟩:=hc.b rfl;simp only at e;subst e;refine⟨_,rfl,(Ao Tryz.func142 (by kernel_rfl) rfl),?_⟩;exact do32 w sb L s h _ n d a' b' ha hb'
theorem dk33 (h:SrL w sb L s) (hr:r.op=33) (hc:r.Can s) (_hb:DoBox w O bs 31):Bz w sb L s 31 r bs:=by
 obtain⟨op,d,a,b,n⟩:=r;simp only at hr;subst hr;obtain⟨a',e,ha⟩:=hc.a rfl;simp only at e;subst e;obtain⟨b',e,hb'⟩:=hc.b rfl;simp only at e;subst e;refine⟨_,rfl,(Ao Tryz.func144 (by kernel_rfl) rfl),?_⟩;exact do33 w sb L s h _ n d a' b' ha hb'
theorem dk34 (h:SrL w sb L s) (hr:r.op=34) (hc:r.Can s) (_hb:DoBox w O bs 32):Bz w sb L s 32 r bs:=by
 obtain⟨op,d,a,b,n⟩:=r;simp only at hr;subst hr;refine⟨_,rfl,(Ao Tryz.func146 (by kernel_rfl) rfl),?_⟩;exact do34 w sb L s h _ n d a b
theorem dk35 (h:SrL w sb L s) (hr:r.op=35) (hc:r.Can s) (_hb:DoBox w O bs 33):Bz w sb L s 33 r bs:=by
 obtain⟨op,d,a,b,n⟩:=r;simp only at hr;subst hr;obtain⟨n',e,hn⟩:=hc.n rfl;simp only at e;subst e;refine⟨_,rfl,(Ao Tryz.func148 (by kernel_rfl) rfl),?_⟩;exact do35 w sb L s h _ d a b n' hn
theorem dk36 (h:SrL w sb L s) (hr:r.op=36) (hc:r.Can s) (_hb:DoBox w O bs 34):Bz w sb L s 34 r bs:=by
 obtain⟨op,d,a,b,n⟩:=r;simp only at hr;subst hr;obtain⟨a',e,ha⟩:=hc.a rfl;simp only at e;subst e;obtain⟨n',e,hn⟩:=hc.n rfl;simp only at e;subst e;refine⟨_,rfl,(Ao Tryz.func149 (by kernel_rfl) rfl),?_⟩;exact do36 w sb L s h _ d b a' n' ha hn
theorem dk41 (h:SrL w sb L s) (hr:r.op=41) (hc:r.Can s) (_hb:DoBox w O bs 35):Bz w sb L s 35 r bs:=by
 obtain⟨op,d,a,b,n⟩:=r;simp only at hr;subst hr;obtain⟨a',e,ha⟩:=hc.a rfl;simp only at e;subst e;obtain⟨n',e,hn⟩:=hc.n rfl;simp only at e;subst e;refine⟨_,rfl,(Ao Tryz.func151 (by kernel_rfl) rfl),?_⟩;exact do41 w sb L s h _ d b a' n' ha hn
theorem Zcd (h:SrL w sb L s) {i:Nat} (hi:i<36) (hr:r.op=Ge i) (hc:r.Can s) (hb:DoBox w O bs i):Bz w sb L s i r bs:=by
 match i,hi,hr,hb with
 | 0,_,hr,hb=>exact dk1 h hr hc hb
 | 1,_,hr,hb=>exact dk39 h hr hc hb
 | 2,_,hr,hb=>exact dk40 h hr hc hb
 | 3,_,hr,hb=>exact dk5 h hr hc hb
 | 4,_,hr,hb=>exact dk6 h hr hc hb
 | 5,_,hr,hb=>exact dk7 h hr hc hb
 | 6,_,hr,hb=>exact dk8 h hr hc hb
 | 7,_,hr,hb=>exact dk9 h hr hc hb
 | 8,_,hr,hb=>exact dk10 h hr hc hb
 | 9,_,hr,hb=>exact dk11 h hr hc hb
 | 10,_,hr,hb=>exact dk12 h hr hc hb
 | 11,_,hr,hb=>exact dk13 h hr hc hb
 | 12,_,hr,hb=>exact dk14 h hr hc hb
 | 13,_,hr,hb=>exact dk15 h hr hc hb
 | 14,_,hr,hb=>exact dk16 h hr hc hb
 | 15,_,hr,hb=>exact dk17 h hr hc hb
 | 16,_,hr,hb=>exact dk18 h hr hc hb
 | 17,_,hr,hb=>exact dk19 h hr hc hb
 | 18,_,hr,hb=>exact dk20 h hr hc hb
 | 19,_,hr,hb=>exact dk21 h hr hc hb
 | 20,_,hr,hb=>exact dk25 h hr hc hb
 | 21,_,hr,hb=>exact dk26 h hr hc hb
 | 22,_,hr,hb=>exact dk27 h hr hc hb
 | 23,_,hr,hb=>exact dk28 h hr hc hb
 | 24,_,hr,hb=>exact dk22 h hr hc hb
 | 25,_,hr,hb=>exact dk23 h hr hc hb
 | 26,_,hr,hb=>exact dk24 h hr hc hb
 | 27,_,hr,hb=>exact dk29 h hr hc hb
 | 28,_,hr,hb=>exact dk30 h hr hc hb
 | 29,_,hr,hb=>exact dk31 h hr hc hb
 | 30,_,hr,hb=>exact dk32 h hr hc hb
 | 31,_,hr,hb=>exact dk33 h hr hc hb
 | 32,_,hr,hb=>exact dk34 h hr hc hb
 | 33,_,hr,hb=>exact dk35 h hr hc hb
 | 34,_,hr,hb=>exact dk36 h hr hc hb
 | 35,_,hr,hb=>exact dk41 h hr hc hb
 | n+36,h2,_,_=>omega
end
end Go.Proofs.YtnhebmgibiomnaaGreat
