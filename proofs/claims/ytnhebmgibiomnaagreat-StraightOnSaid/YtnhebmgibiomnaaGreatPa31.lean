/- Parts of the proof, joined: StS StO Open OpenZ MkA OpenB. -/
import Derived.BigQuiet
import Derived.BigRegion
import Derived.ChangeSame
import Derived.Deep.DeepCutAuto
import Derived.Deep.Light
import Derived.Deep.QuietTactic
import Derived.Deep.RegionHeld
import Derived.Deep.RegionHeld3
import Derived.Deep.RegionLaw
import Derived.Deep.RegionWith
import Derived.Deep.Slices
import Derived.Laws.MakeOwn
import Derived.Lib.SmallJoins
import Derived.LoopIn
import Derived.LoopNIn
import Derived.OpenShut
import Derived.OrdersHeld
import Derived.OwnWalkIn
import Derived.ProofKit
import Derived.RangeFuncBound
import Derived.RangeFuncCalls
import Derived.RangeFuncLeaves
import Derived.RangeFuncNested
import Derived.RegionTactic
import Derived.StillTailTactics
import Derived.TacticsInMore
import Derived.Test.YtnhebmgibiomnaaGreatProg
import Derived.Test.YtnhebmgibiomnaaGreatPa1
import Derived.Test.YtnhebmgibiomnaaGreatPa14
import Derived.Test.YtnhebmgibiomnaaGreatPa2
import Derived.Test.YtnhebmgibiomnaaGreatPa21
import Derived.Test.YtnhebmgibiomnaaGreatPa29
import Derived.Test.YtnhebmgibiomnaaGreatPa30
set_option linter.unusedVariables false
set_option linter.unusedSimpArgs false
namespace Go.Proofs.YtnhebmgibiomnaaGreat
open Go.RowKit Mc
namespace Sr
theorem deed_sz {n m k : Nat} {s : St} (r : Reg) (h : Mr.Sz n m k s.m) : Mr.Sz n m k (deed r s).m := by
  unfold deed
  simp only
  split <;> (first | exact h.same ⟨rfl, rfl, rfl, rfl, rfl, rfl⟩ | skip)
  · exact ⟨h.org, h.cur, h.touch, h.ends, by show (put_ _ _ _).length = _; rw [Mr.put_len]; exact h.cvt, h.store⟩
  · exact ⟨h.org, h.cur, h.touch, h.ends, h.cvt, by show (put_ _ _ _).length = _; rw [Mr.put_len]; exact h.store⟩
  · split
    · exact Mr.goes_sz h _ _ _
    · exact h
  · split
    · exact Mr.goes_sz h _ _ _
    · exact h
  · split
    · exact Mr.goes_sz h _ _ _
    · exact h
  · exact ⟨h.org, by show (inter s.m _).cur.length = _; rw [Mr.inter_len]; exact h.cur, h.touch, h.ends, h.cvt, h.store⟩
  · unfold pass; split <;> exact h
  · unfold pass; split <;> exact h
theorem runs_sz {n m k : Nat} (code : List Reg) : ∀ (j : Nat) (s : St), Mr.Sz n m k s.m → Mr.Sz n m k (runs j code s).m
  | 0, _, h => h
  | j + 1, s, h => by
    rw [runs]
    split
    · exact h
    · exact runs_sz code j _ (deed_sz _ h)
theorem run_sz (code : List Reg) (cvt : List Int) (size : Int) (z : Zn) : Mr.Sz z.cur.length z.ends.length cvt.length (run code cvt size z).m :=
  runs_sz code _ _ ((Mr.begin_sz ⟨[], [], cvt, 0⟩ z).same ⟨rfl, rfl, rfl, rfl, rfl, rfl⟩)
structure Out where
  zn : Zn
  cv : List Int
  st : List Int
  sk : List Int
  steps : Nat
  err : Int
def outY (t : Mc.St) : Out := ⟨⟨t.org, t.cur, t.touch, t.ends⟩, t.cvt, t.store, t.stack.reverse, t.steps, 0⟩
def out (code : List Reg) (cvt : List Int) (size : Int) (z : Zn) : Out :=
  if right code then outY (told (run code cvt size z) (top code)) else ⟨⟨[], [], [], []⟩, [], [], [], 0, 50⟩
structure OutOk (o : Out) : Prop where
  zn : ZnOk o.zn
  cv : o.cv.length ≤ 1000000
  st : o.st.length ≤ 1000000
  sk : o.sk.length ≤ 1000000
theorem out_ok (code : List Reg) (cvt : List Int) (size : Int) (z : Zn) (hz : ZnOk z) (hcv : cvt.length ≤ 1000000) : OutOk (out code cvt size z) := by
  unfold out
  by_cases h : right code = true
  · rw [if_pos h]
    have k := run_sz code cvt size z
    have hc := hz.cur
    have he := hz.ends
    have hs := told_stack h cvt size z
    obtain ⟨_, _, _, h4, h5⟩ := right_parts h
    have e1 : (outY (told (run code cvt size z) (top code))).zn = ⟨(run code cvt size z).m.org, (run code cvt size z).m.cur, (run code cvt size z).m.touch, (run code cvt size z).m.ends⟩ := rfl
    have e2 : (outY (told (run code cvt size z) (top code))).cv = (run code cvt size z).m.cvt := rfl
    have e3 : (outY (told (run code cvt size z) (top code))).st = (run code cvt size z).m.store := rfl
    have e4 : (outY (told (run code cvt size z) (top code))).sk.length = (told (run code cvt size z) (top code)).stack.length := List.length_reverse ..
    refine ⟨?_, by rw [e2, k.cvt]; exact hcv, by rw [e3, k.store]; decide, by rw [e4]; omega⟩
    rw [e1]
    exact ⟨by show (run code cvt size z).m.org.length ≤ _; rw [k.org]; exact hc, by show (run code cvt size z).m.cur.length ≤ _; rw [k.cur]; exact hc, by show (run code cvt size z).m.touch.length ≤ _; rw [k.touch]; exact hc, by show (run code cvt size z).m.ends.length ≤ _; rw [k.ends]; exact he⟩
  · rw [if_neg h]
    exact ⟨⟨by simp, by simp, by simp, by simp⟩, by simp, by simp, by simp⟩
theorem out_right {code : List Reg} (h : right code = true) (cvt : List Int) (size : Int) (z : Zn) : (out code cvt size z).err = 0 ∧ (out code cvt size z).steps < code.length ∧ ((out code cvt size z).sk.length : Int) = (code.getD (code.length - 1) nop).n := by
  unfold out
  rw [if_pos h]
  exact ⟨rfl, run_steps h cvt size z, by rw [← told_stack h cvt size z]; show ((List.reverse _).length : Int) = _; rw [List.length_reverse]⟩
theorem out_ahead {code : List Reg} (h : right code = true) (hl : code.length ≤ 200) (cvt : List Int) (size : Int) (z : Zn) : out (ahead ++ code) cvt size z = { out code cvt size z with steps := (out code cvt size z).steps + 1 } := by
  unfold out
  rw [if_pos (ahead_right h hl), if_pos h, ahead_told h]
  rfl
end Sr
structure OutAt (Y : World) (o : Sr.Out) (A1 A2 A3 A4 A5 A6 A7 : Option Addr) : Prop where
  zn : ZnAt Y Y.heap.size o.zn A1 A2 A3 A4
  cv : Reads Y Y.heap.size 1 A5 o.cv.length (ints o.cv)
  st : Reads Y Y.heap.size 1 A6 o.st.length (ints o.st)
  sk : Reads Y Y.heap.size 1 A7 o.sk.length (ints o.sk)
structure StW (code : List Sr.Reg) (cvt : List Int) (size : Int) (z : Zn) (A fA mA cA oA uA tA eA : Option Addr) (c fn fc mn mc cc oc uc tc ec : Nat) (w : World) (pb zb : Nat) (X : World) : Prop where
  pz : Blk X pb 26 #[.slice fA fn fc, .slice mA mn mc, .slice cA cvt.length cc, .int .i64 size]
  zz : Blk X zb 30 #[.slice oA z.org.length oc, .slice uA z.cur.length uc, .slice tA z.touch.length tc, .slice eA z.ends.length ec]
  co : Reads X X.heap.size 5 A code.length (regCells code)
  cv : Reads X X.heap.size 1 cA cvt.length (ints cvt)
  zn : ZnAt X X.heap.size z oA uA tA eA
  b : Below w.heap.size w X
section
variable {code : List Sr.Reg} {cvt : List Int} {size : Int} {z : Zn} {A fA mA cA oA uA tA eA : Option Addr} {c fn fc mn mc cc oc uc tc ec : Nat}
theorem ZnAt.go {X Y : World} (h : ZnAt X X.heap.size z oA uA tA eA) (hb : Below X.heap.size X Y) : ZnAt Y Y.heap.size z oA uA tA eA := ⟨Reads.go h.org hb, Reads.go h.cur hb, Reads.go h.touch hb, Reads.go h.ends hb⟩
theorem StW.go {w : World} {pb zb : Nat} {X Y : World} (h : StW code cvt size z A fA mA cA oA uA tA eA c fn fc mn mc cc oc uc tc ec w pb zb X) (hb : Below X.heap.size X Y) : StW code cvt size z A fA mA cA oA uA tA eA c fn fc mn mc cc oc uc tc ec w pb zb Y :=
  ⟨Blk.go h.pz hb, Blk.go h.zz hb, Reads.go h.co hb, Reads.go h.cv hb, ZnAt.go h.zn hb, h.b.trans (hb.mono h.b.size)⟩
theorem StW.start (w : World) (h1 : Reads w w.heap.size 5 A code.length (regCells code)) (h2 : Reads w w.heap.size 1 cA cvt.length (ints cvt)) (h3 : ZnAt w w.heap.size z oA uA tA eA) :
    StW code cvt size z A fA mA cA oA uA tA eA c fn fc mn mc cc oc uc tc ec w w.heap.size (w.heap.size + 1) ((w.alloc (.cells #[.slice fA fn fc, .slice mA mn mc, .slice cA cvt.length cc, .int .i64 size] 26)).alloc (.cells #[.slice oA z.org.length oc, .slice uA z.cur.length uc, .slice tA z.touch.length tc, .slice eA z.ends.length ec] 30)) := by
  have hb : Below w.heap.size w ((w.alloc (.cells #[.slice fA fn fc, .slice mA mn mc, .slice cA cvt.length cc, .int .i64 size] 26)).alloc (.cells #[.slice oA z.org.length oc, .slice uA z.cur.length uc, .slice tA z.touch.length tc, .slice eA z.ends.length ec] 30)) := ((Below.refl _ _).alloc (Nat.le_refl _) _).alloc (by simp) _
  exact ⟨(Blk.new _ _ _).alloc _, Blk.new_at _ _ _ (by simp), Reads.go h1 hb, Reads.go h2 hb, ZnAt.go h3 hb, hb⟩
theorem ZnAt.drew {X : World} (h : ZnAt X X.heap.size z oA uA tA eA) : ZnAt X.drew X.drew.heap.size z oA uA tA eA := ⟨h.org, h.cur, h.touch, h.ends⟩
theorem StW.drew {w : World} {pb zb : Nat} {X : World} (h : StW code cvt size z A fA mA cA oA uA tA eA c fn fc mn mc cc oc uc tc ec w pb zb X) : StW code cvt size z A fA mA cA oA uA tA eA c fn fc mn mc cc oc uc tc ec w pb zb X.drew := ⟨h.pz, h.zz, h.co, h.cv, ZnAt.drew h.zn, h.b.drew⟩
theorem regs_cut {X : World} {B : Nat} (h : Reads X B 5 A code.length (regCells code)) {j : Nat} (hj : j ≤ code.length) : Reads X B 5 A (code.take j).length (regCells (code.take j)) := by
  obtain ⟨h1, h2⟩ := h
  refine ⟨regCells_len _, fun h0 => ?_⟩
  obtain ⟨b, off, e, hb, hc⟩ := h2 (by rw [List.length_take] at h0; omega)
  refine ⟨b, off, e, hb, fun k u hu => hc k u ?_⟩
  have hp : regCells code = regCells (code.take j) ++ regCells (code.drop j) := by rw [← regCells_app, List.take_append_drop]
  rw [hp, List.getElem?_append_left (List.getElem?_eq_some_iff.1 hu).1]
  exact hu
theorem right_cut (X : World) (h : Reads X X.heap.size 5 A code.length (regCells code)) {j : Nat} (hj : j ≤ code.length) (hl : code.length ≤ 1000000) :
    Calls Tryz.prog 21 #[.slice A j c] X fun e Y => e = .returned (.bool (Sr.right (code.take j))) ∧ Below X.heap.size X Y := by
  have := right_any A c X.heap.size (code.take j) X (regs_cut h hj) (Nat.le_refl _) (by rw [List.length_take]; omega)
  rwa [List.length_take, Nat.min_eq_left hj] at this
end
theorem OutAt.go {X Y : World} {o : Sr.Out} {A1 A2 A3 A4 A5 A6 A7 : Option Addr} (h : OutAt X o A1 A2 A3 A4 A5 A6 A7) (hb : Below X.heap.size X Y) : OutAt Y o A1 A2 A3 A4 A5 A6 A7 := ⟨ZnAt.go h.zn hb, Reads.go h.cv hb, Reads.go h.st hb, Reads.go h.sk hb⟩
theorem OutAt.drew {X : World} {o : Sr.Out} {A1 A2 A3 A4 A5 A6 A7 : Option Addr} (h : OutAt X o A1 A2 A3 A4 A5 A6 A7) : OutAt X.drew o A1 A2 A3 A4 A5 A6 A7 := ⟨ZnAt.drew h.zn, h.cv, h.st, h.sk⟩
theorem out_run (X : World) (code : List Sr.Reg) (cvt : List Int) (size : Int) (z : Zn) (A fA mA cA oA uA tA eA : Option Addr) (c fn fc mn mc cc oc uc tc ec : Nat) (h1 : Reads X X.heap.size 5 A code.length (regCells code)) (h2 : Reads X X.heap.size 1 cA cvt.length (ints cvt)) (h3 : ZnAt X X.heap.size z oA uA tA eA) (hcv : cvt.length ≤ 1000000) (hz : ZnOk z) (hcl : code.length ≤ 1000000) :
    Calls Tryz.prog 17 #[.slice A code.length c, (.agg #[.slice fA fn fc, .slice mA mn mc, .slice cA cvt.length cc, .int .i64 size]), (.agg #[.slice oA z.org.length oc, .slice uA z.cur.length uc, .slice tA z.touch.length tc, .slice eA z.ends.length ec])] X fun e Y => ∃ (A1 A2 A3 A4 A5 A6 A7 : Option Addr) (c1 c2 c3 c4 c5 c6 c7 : Nat), e = .returned (.agg #[.slice A1 (Sr.out code cvt size z).zn.org.length c1, .slice A2 (Sr.out code cvt size z).zn.cur.length c2, .slice A3 (Sr.out code cvt size z).zn.touch.length c3, .slice A4 (Sr.out code cvt size z).zn.ends.length c4, .slice A5 (Sr.out code cvt size z).cv.length c5, .slice A6 (Sr.out code cvt size z).st.length c6, .slice A7 (Sr.out code cvt size z).sk.length c7, .int .i64 (Sr.out code cvt size z).steps, .int .i64 0, .int .i64 (Sr.out code cvt size z).err]) ∧
      OutAt Y (Sr.out code cvt size z) A1 A2 A3 A4 A5 A6 A7 ∧ Below X.heap.size X Y := by
  have hcl' : code.length ≤ 1000000000000 := by omega
  cases hr : Sr.right code
  · refine (runs_no X code A c cvt size z hcv hz hcl' fA mA cA oA tA eA uA fn fc mn mc cc oc tc ec uc h1 h2 h3 hr).mono ?_
    unfold Sr.out
    rw [if_neg (by rw [hr]; simp)]
    rintro e Y ⟨rfl, hb⟩
    exact ⟨none, none, none, none, none, none, none, 0, 0, 0, 0, 0, 0, 0, rfl, ⟨⟨Reads.none_, Reads.none_, Reads.none_, Reads.none_⟩, Reads.none_, Reads.none_, Reads.none_⟩, hb⟩
  · refine (runs_yes X code A c cvt size z hcv hz hcl' fA mA cA oA tA eA uA fn fc mn mc cc oc tc ec uc h1 h2 h3 hr).mono ?_
    have hst := (Sr.run_sz code cvt size z).store
    unfold Sr.out
    rw [if_pos hr]
    have hst' : (Sr.told (Sr.run code cvt size z) (Sr.top code)).store.length = 32 := hst
    have hp : (Sr.told (Sr.run code cvt size z) (Sr.top code)).peak = 0 := rfl
    have he : (Sr.told (Sr.run code cvt size z) (Sr.top code)).err = 0 := rfl
    generalize Sr.told (Sr.run code cvt size z) (Sr.top code) = T at *
    rintro e Y ⟨og, cu, tu, en, cv, st, sk, rfl, hra, hb⟩
    clear h1 h2 h3
    obtain ⟨h1, h2, h3, h4, h5, h6, h7⟩ := hra
    obtain ⟨A1, c1, rfl, _⟩ := owns_form h1
    obtain ⟨A2, c2, rfl, _⟩ := owns_form h2
    obtain ⟨A3, c3, rfl, _⟩ := owns_form h3
    obtain ⟨A4, c4, rfl, _⟩ := owns_form h4
    obtain ⟨A5, c5, rfl, _⟩ := owns_form h5
    obtain ⟨A6, c6, rfl, _⟩ := owns_form h6
    obtain ⟨A7, c7, rfl, _⟩ := owns_form h7
    have r6 := Reads.of_own h6
    have r7 := Reads.of_own h7
    rw [hp, he]
    unfold Sr.outY
    dsimp only
    rw [hst', List.length_reverse]
    exact ⟨A1, A2, A3, A4, A5, A6, A7, c1, c2, c3, c4, c5, c6, c7, rfl, ⟨⟨Reads.of_own h1, Reads.of_own h2, Reads.of_own h3, Reads.of_own h4⟩, Reads.of_own h5, by rw [hst']; exact r6, by rw [List.length_reverse]; exact r7⟩, hb⟩
end Go.Proofs.YtnhebmgibiomnaaGreat
namespace Go.Proofs.YtnhebmgibiomnaaGreat
open Go.RowKit Mc
set_option maxRecDepth 100000 in
set_option maxHeartbeats 8000000 in
theorem straightOn_walk (code : List Sr.Reg) (cvt : List Int) (size : Int) (z : Zn) (A fA mA cA oA uA tA eA : Option Addr) (c fn fc mn mc cc oc uc tc ec : Nat) (w : World) (hcap : code.length ≤ c) (hmax : c ≤ maxLen) (h1 : Reads w w.heap.size 5 A code.length (regCells code)) (h2 : Reads w w.heap.size 1 cA cvt.length (ints cvt)) (h3 : ZnAt w w.heap.size z oA uA tA eA) :
    Calls Tryz.prog 6 #[.slice A code.length c, (.agg #[.slice fA fn fc, .slice mA mn mc, .slice cA cvt.length cc, .int .i64 size]), (.agg #[.slice oA z.org.length oc, .slice uA z.cur.length uc, .slice tA z.touch.length tc, .slice eA z.ends.length ec])] w fun e w' => e = .returned (.bool true) ∧ Below w.heap.size w w' := by
  have H := Lib.hid (StW.start (fA := fA) (mA := mA) (c := c) (fn := fn) (fc := fc) (mn := mn) (mc := mc) (cc := cc) (oc := oc) (uc := uc) (tc := tc) (ec := ec) (size := size) w h1 h2 h3)
  clear h1 h2 h3
  unfold maxLen at hmax
  go_enter Tryz.func6, Tryz.ntmps6
  go_upto_region 1 with fail
  generalize (w.alloc (.cells #[.slice fA fn fc, .slice mA mn mc, .slice cA cvt.length cc, .int .i64 size] 26)).alloc (.cells #[.slice oA z.org.length oc, .slice uA z.cur.length uc, .slice tA z.touch.length tc, .slice eA z.ends.length ec] 30) = X at *
  have p0 := H.out.pz.cell 0
  have p1 := H.out.pz.cell 1
  have p2 := H.out.pz.cell 2
  have p3 := H.out.pz.cell 3
  have z0 := H.out.zz.cell 0
  have z1 := H.out.zz.cell 1
  have z2 := H.out.zz.cell 2
  have z3 := H.out.zz.cell 3
  simp only [List.getElem?_toArray, List.getElem?_cons_zero, List.getElem?_cons_succ] at p0 p1 p2 p3 z0 z1 z2 z3
  have pl := H.out.pz.lt
  have zl := H.out.zz.lt
  go_wp2_with fail
  refine (small_any A oA uA tA eA code.length z.org.length z.cur.length z.touch.length z.ends.length c oc uc tc ec X).mono ?_
  rintro e w1 ⟨rfl, hg⟩
  have H1 := Lib.hid (H.out.go (Grow.below hg (Nat.le_refl _)))
  clear p0 p1 p2 p3 z0 z1 z2 z3 pl zl
  clear H hg
  have p0 := H1.out.pz.cell 0
  have p1 := H1.out.pz.cell 1
  have p2 := H1.out.pz.cell 2
  have p3 := H1.out.pz.cell 3
  have z0 := H1.out.zz.cell 0
  have z1 := H1.out.zz.cell 1
  have z2 := H1.out.zz.cell 2
  have z3 := H1.out.zz.cell 3
  simp only [List.getElem?_toArray, List.getElem?_cons_zero, List.getElem?_cons_succ] at p0 p1 p2 p3 z0 z1 z2 z3
  have pl := H1.out.pz.lt
  have zl := H1.out.zz.lt
  cases hs : smallV code.length z.org.length z.cur.length z.touch.length z.ends.length
  · go_wp2_with fail
    refine (built_any _).mono ?_
    rintro e w9 ⟨rfl, hb9⟩
    have hb9' := (H1.out.go hb9).b
    clear p0 p1 p2 p3 z0 z1 z2 z3 pl zl
    clear hb9
    go_wp2_with fail
    go_ret
    exact ⟨rfl, hb9'⟩
  · unfold smallV at hs
    simp only [Bool.and_eq_true, decide_eq_true_eq] at hs
    obtain ⟨⟨⟨⟨s1, s2⟩, s3⟩, s4⟩, s5⟩ := hs
    by_cases hcv : (100 : Int) < cvt.length
    · go_wp2_with fail
      refine (built_any _).mono ?_
      rintro e w9 ⟨rfl, hb9⟩
      have hb9' := (H1.out.go hb9).b
      clear p0 p1 p2 p3 z0 z1 z2 z3 pl zl
      clear hb9
      go_wp2_with fail
      go_ret
      exact ⟨rfl, hb9'⟩
    · go_wp2_with fail
      refine (right_any A c _ code w1 H1.out.co (Nat.le_refl _) (by omega)).mono ?_
      rintro e w2 ⟨rfl, hb⟩
      have H2 := Lib.hid (H1.out.go hb)
      clear p0 p1 p2 p3 z0 z1 z2 z3 pl zl
      clear H1 hb
      have p0 := H2.out.pz.cell 0
      have p1 := H2.out.pz.cell 1
      have p2 := H2.out.pz.cell 2
      have p3 := H2.out.pz.cell 3
      have z0 := H2.out.zz.cell 0
      have z1 := H2.out.zz.cell 1
      have z2 := H2.out.zz.cell 2
      have z3 := H2.out.zz.cell 3
      simp only [List.getElem?_toArray, List.getElem?_cons_zero, List.getElem?_cons_succ] at p0 p1 p2 p3 z0 z1 z2 z3
      have pl := H2.out.pz.lt
      have zl := H2.out.zz.lt
      cases hr : Sr.right code
      · go_wp2_with fail
        refine (built_any _).mono ?_
        rintro e w9 ⟨rfl, hb9⟩
        have hb9' := (H2.out.go hb9).b
        clear p0 p1 p2 p3 z0 z1 z2 z3 pl zl
        clear hb9
        go_wp2_with fail
        go_ret
        exact ⟨rfl, hb9'⟩
      · go_wp2_with fail
        refine (out_run w2 code cvt size z A fA mA cA oA uA tA eA c fn fc mn mc cc oc uc tc ec H2.out.co H2.out.cv H2.out.zn (by omega) ⟨by omega, by omega, by omega, by omega⟩ (by omega)).mono ?_
        obtain ⟨r1, r2, _⟩ := Sr.right_parts hr
        obtain ⟨her, hsn, hst⟩ := Sr.out_right hr cvt size z
        obtain ⟨j, hj⟩ : ∃ j, code.length = j + 1 := ⟨code.length - 1, by omega⟩
        have hjj : code.length - 1 = j := by omega
        have hlast : ∃ n, (regCells code)[j * 5 + 4]? = some (.int .i64 n) ∧ n = (code.getD j Sr.nop).n := by
          obtain ⟨r, hr', _⟩ := Sr.right_top hr
          rw [hjj] at hr'
          exact ⟨r.n, (regCells_at code _ _ hr').2.2.2.2, by rw [List.getD_eq_getElem?_getD, hr']; rfl⟩
        obtain ⟨N, hN1, hN2⟩ := hlast
        have hless := Sr.right_less hr
        rw [hjj] at hst hless
        rw [← hN2] at hst
        generalize Sr.out code cvt size z = T at *
        obtain ⟨⟨l1, l2, l3, l4⟩, l5, l6, l7, st, er⟩ := T
        simp only at her hsn hst
        subst her
        rintro e w3 ⟨A1, A2, A3, A4, A5, A6, A7, c1, c2, c3, c4, c5, c6, c7, rfl, _, hb⟩
        obtain ⟨m1, hm1⟩ : ∃ m, m = l1.length := ⟨_, rfl⟩
        obtain ⟨m2, hm2⟩ : ∃ m, m = l2.length := ⟨_, rfl⟩
        obtain ⟨m3, hm3⟩ : ∃ m, m = l3.length := ⟨_, rfl⟩
        obtain ⟨m4, hm4⟩ : ∃ m, m = l4.length := ⟨_, rfl⟩
        obtain ⟨m5, hm5⟩ : ∃ m, m = l5.length := ⟨_, rfl⟩
        obtain ⟨m6, hm6⟩ : ∃ m, m = l6.length := ⟨_, rfl⟩
        obtain ⟨m7, hm7⟩ : ∃ m, m = l7.length := ⟨_, rfl⟩
        rw [← hm7] at hst
        clear hN2
        subst hst
        simp only [← hm1, ← hm2, ← hm3, ← hm4, ← hm5, ← hm6, ← hm7]
        clear hm1 hm2 hm3 hm4 hm5 hm6 hm7 hr
        have HLS := Lib.hid hless
        have HN1 := Lib.hid hN1
        clear hless hN1
        have hb' := hb.alloc hb.size (.cells #[.slice A1 m1 c1, .slice A2 m2 c2, .slice A3 m3 c3, .slice A4 m4 c4, .slice A5 m5 c5, .slice A6 m6 c6, .slice A7 m7 c7, .int .i64 (st : Int), .int .i64 0, .int .i64 0] 39)
        have H3 := Lib.hid (H2.out.go hb').drew
        have HR3 := Lib.hid (Blk.new w3 39 #[.slice A1 m1 c1, .slice A2 m2 c2, .slice A3 m3 c3, .slice A4 m4 c4, .slice A5 m5 c5, .slice A6 m6 c6, .slice A7 m7 c7, .int .i64 (st : Int), .int .i64 0, .int .i64 0])
        clear p0 p1 p2 p3 z0 z1 z2 z3 pl zl
        clear H2 hb hb'
        go_upto_region 4 with fail
        generalize w3.alloc (.cells #[.slice A1 m1 c1, .slice A2 m2 c2, .slice A3 m3 c3, .slice A4 m4 c4, .slice A5 m5 c5, .slice A6 m6 c6, .slice A7 m7 c7, .int .i64 (st : Int), .int .i64 0, .int .i64 0] 39) = X3 at *
        generalize w3.heap.size = rb at *
        have q6 := HR3.out.cell 6
        have q7 := HR3.out.cell 7
        have q9 := HR3.out.cell 9
        simp only [List.getElem?_toArray, List.getElem?_cons_zero, List.getElem?_cons_succ] at q6 q7 q9
        have ql := HR3.out.lt
        obtain ⟨b, off, rfl, hbB, hc⟩ := H3.out.co.2 (by omega)
        have q4 : X3.cell? ⟨b, off + j * 5 + 4, none⟩ = some (.int .i64 (m7 : Int)) := by rw [Nat.add_assoc]; exact hc _ _ HN1.out
        have hbB' : b < X3.heap.size := hbB
        have hw1 : IntKind.i64.wrap ((code.length : Int) - 1) = (j : Int) := (IntWalk.i64_in _ (by omega)).trans (by omega)
        have hji : (j : Int) < code.length := by omega
        have hj0 : (1 : Int) ≤ code.length := by omega
        have hs0 : (0 : Int) ≤ (st : Int) := by omega
        have hs1 : (st : Int) < code.length := by omega
        have hjc : j ≤ c := by omega
        have HJ := Lib.hid hj
        have HM := Lib.hid hmax
        have HS1 := Lib.hid s1
        clear hj hjj hc hsn hmax r1 r2 s1 s2 s3 s4 s5 hbB hcap
        have hS : X3.drew.cell? ⟨rb, 6, none⟩ = some (.slice A7 m7 c7) ∧ X3.drew.cell? ⟨rb, 7, none⟩ = some (.int .i64 (st : Int)) ∧ X3.drew.cell? ⟨rb, 9, none⟩ = some (.int .i64 0) ∧ X3.drew.cell? ⟨b, off + j * 5 + 4, none⟩ = some (.int .i64 (m7 : Int)) := ⟨q6, q7, q9, q4⟩
        refine wp_region_seqT (fun i => !([0, 29] : List Nat).contains i) (fun i => ([8, 13, 20, 34, 42] : List Nat).contains i) (fun i => ([] : List Nat).contains i) [0, 1, 2, 3, 4, 5, 6, 7, 8, 9, 10, 11, 12, 13, 14, 15, 16, 17, 18, 19, 20, 21, 22, 23, 24, 25, 26, 27, 28, 29, 30, 31, 32, 33, 34, 35, 36, 37, 38, 39, 40, 41, 42, 43, 44, 45] (fun wq : World => wq.cell? ⟨rb, 6, none⟩ = some (.slice A7 m7 c7) ∧ wq.cell? ⟨rb, 7, none⟩ = some (.int .i64 (st : Int)) ∧ wq.cell? ⟨rb, 9, none⟩ = some (.int .i64 0) ∧ wq.cell? ⟨b, off + j * 5 + 4, none⟩ = some (.int .i64 (m7 : Int))) (by kernel_rfl) (by kernel_rfl) (by kernel_rfl) (by kernel_rfl) ?_
        refine wpSeq_heavy rfl rfl (fun K hK => ?_); go_simp
        refine (built_any _).mono ?_
        rintro e w5 ⟨rfl, hb5⟩
        have H5 := Lib.hid (H3.out.go hb5)
        have hS5 : w5.cell? ⟨rb, 6, none⟩ = some (.slice A7 m7 c7) ∧ w5.cell? ⟨rb, 7, none⟩ = some (.int .i64 (st : Int)) ∧ w5.cell? ⟨rb, 9, none⟩ = some (.int .i64 0) ∧ w5.cell? ⟨b, off + j * 5 + 4, none⟩ = some (.int .i64 (m7 : Int)) := ⟨(hb5.cell (p := ⟨rb, 6, none⟩) ql).trans q6, (hb5.cell (p := ⟨rb, 7, none⟩) ql).trans q7, (hb5.cell (p := ⟨rb, 9, none⟩) ql).trans q9, (hb5.cell (p := ⟨b, off + j * 5 + 4, none⟩) hbB').trans q4⟩
        have hz5 : X3.heap.size ≤ w5.heap.size := hb5.size
        refine hK _ _ (fun _ => hS5) ?_; clear hK K
        have hS := hS5
        iterate 27 (first | refine wpSeq_pureA (v := _) rfl rfl rfl ?_ | refine wpSeq_loadA (v := _) rfl rfl hS rfl ?_)
        go_simp
        iterate 1 (first | refine wpSeq_pureA (v := _) rfl rfl rfl ?_ | refine wpSeq_loadA (v := _) rfl rfl hS rfl ?_)
        refine wpSeq_heavy rfl rfl (fun K hK => ?_); go_simp
        refine (right_cut w5 H5.out.co (by have := HJ.out; omega) (by have := HS1.out; omega)).mono ?_
        rintro e w6 ⟨rfl, hb6⟩
        have H6 := Lib.hid (H5.out.go hb6)
        rw [HLS.out]
        obtain ⟨k6, k7, k9, k4⟩ := hS5
        have hS6 : w6.cell? ⟨rb, 6, none⟩ = some (.slice A7 m7 c7) ∧ w6.cell? ⟨rb, 7, none⟩ = some (.int .i64 (st : Int)) ∧ w6.cell? ⟨rb, 9, none⟩ = some (.int .i64 0) ∧ w6.cell? ⟨b, off + j * 5 + 4, none⟩ = some (.int .i64 (m7 : Int)) := ⟨(hb6.cell (p := ⟨rb, 6, none⟩) (Nat.lt_of_lt_of_le ql hz5)).trans k6, (hb6.cell (p := ⟨rb, 7, none⟩) (Nat.lt_of_lt_of_le ql hz5)).trans k7, (hb6.cell (p := ⟨rb, 9, none⟩) (Nat.lt_of_lt_of_le ql hz5)).trans k9, (hb6.cell (p := ⟨b, off + j * 5 + 4, none⟩) (Nat.lt_of_lt_of_le hbB' hz5)).trans k4⟩
        refine hK _ _ (fun _ => hS6) ?_; clear hK K
        have hS := hS6
        iterate 16 (first | refine wpSeq_pureA (v := _) rfl rfl rfl ?_ | refine wpSeq_loadA (v := _) rfl rfl hS rfl ?_)
        refine wpSeq_end ?_
        have hbw := H6.out.b
        go_wp2_with fail
        go_ret
        refine ⟨?_, hbw⟩
        kernel_rfl
end Go.Proofs.YtnhebmgibiomnaaGreat
namespace Go.Proofs.YtnhebmgibiomnaaGreat
open Go.ChangeShapes Go.WideShapes Go.ChangeAt Go.RowKit Go.Deep
section
variable {H : Type} (enc : TypeId × Value → H) (P : Program) (w : World) (spare : Nat → Bool) (held : Bool)
def Opens {α : Type} (R : Repr w.heap.size α) (t : TypeId) : Prop :=
  ∀ (fuel : Nat) (cs : List Value) (x : DataW H × List MemPlace), DataW.trod enc P w 0 spare held fuel t cs = some x → ∃ a, R.rel w w.heap.size a cs
def OpensFields {α : Type} (R : Repr w.heap.size α) (off : Nat) (fs : List Field) : Prop :=
  ∀ (cs : List Value), cs.length = off + R.size → (∀ f ∈ fs, ∃ n y, DataW.trod enc P w 0 spare held n f.type ((cs.drop f.offset).take (P.cellsOf f.type)) = some y) → ∃ a, R.rel w w.heap.size a (cs.drop off)
end
section
variable {H : Type} {enc : TypeId × Value → H} {P : Program} {w : World} {spare : Nat → Bool} {held : Bool} {α β : Type}
theorem opens_int {t : TypeId} (ht : P.underlying t = some (.int .i64)) : Opens enc P w spare held (Repr.int (N0 := w.heap.size)) t := by
  intro fuel cs x h
  obtain ⟨n, rfl, _, hw⟩ := DataW.trod_int ht h
  exact ⟨n, rfl, bounds_i64 hw⟩
theorem opens_field {R : Repr w.heap.size α} {f : Field} {off0 : Nat} (e0 : off0 = f.offset) (h : Opens enc P w spare held R f.type) (hs : P.cellsOf f.type = R.size) : OpensFields enc P w spare held R off0 [f] := by
  subst e0
  intro cs hl hf
  obtain ⟨n, y, hy⟩ := hf f List.mem_cons_self
  rw [List.take_of_length_le (by simp; omega)] at hy
  exact h _ _ _ hy
theorem opens_fields {R : Repr w.heap.size α} {S : Repr w.heap.size β} {f : Field} {fs : List Field} {off0 off : Nat} (e0 : off0 = f.offset) (h : Opens enc P w spare held R f.type) (hs : P.cellsOf f.type = R.size) (ho : off = f.offset + R.size) (h2 : OpensFields enc P w spare held S off fs) :
    OpensFields enc P w spare held (Repr.pair R S) off0 (f :: fs) := by
  subst e0
  intro cs hl hf
  have hl' : cs.length = f.offset + (R.size + S.size) := hl
  obtain ⟨n, y, hy⟩ := hf f List.mem_cons_self
  obtain ⟨a, ha⟩ := h _ _ _ hy
  obtain ⟨b, hb⟩ := h2 cs (by omega) fun g hg => hf g (List.mem_cons_of_mem _ hg)
  refine ⟨(a, b), (cs.drop f.offset).take R.size, cs.drop off, ?_, by rw [hs] at ha; exact ha, hb⟩
  rw [ho, ← List.drop_drop, List.take_append_drop]
theorem opens_struct {R : Repr w.heap.size α} {t : TypeId} {fs : Array Field} (ht : P.underlying t = some (.struct fs)) (hs : P.cellsOf t = R.size) (h : OpensFields enc P w spare held R 0 fs.toList) : Opens enc P w spare held R t := by
  intro fuel cs x hx
  obtain ⟨xs, n, _, _, hl, hlen, hf⟩ := DataW.trod_struct ht hx
  have := h cs (by rw [hl, hs]; omega) fun f hm => by
    obtain ⟨i, hi⟩ := List.getElem?_of_mem hm
    have hi' : fs[i]? = some f := by simpa using hi
    have hlt : i < xs.length := by rw [hlen]; exact (Array.getElem?_eq_some_iff.1 hi').1
    exact ⟨n, xs[i], by rw [hf i f hi', List.getElem?_eq_getElem hlt]⟩
  simpa using this
theorem opens_map {R : Repr w.heap.size α} {t : TypeId} (f : β → α) (g : α → β) (hfg : ∀ a, f (g a) = a) (h : Opens enc P w spare held R t) : Opens enc P w spare held (Repr.map f R) t := by
  intro fuel cs x hx
  obtain ⟨a, ha⟩ := h _ _ _ hx
  exact ⟨g a, by show R.rel _ _ (f (g a)) _; rw [hfg]; exact ha⟩
theorem opens_row {R : Repr w.heap.size α} {t e : TypeId} (ht : P.underlying t = some (.slice e)) (hs : P.cellsOf e = R.size) (h0 : 0 < R.size) (h : Opens enc P w spare held R e) : Opens enc P w spare held (Repr.row e R) t := by
  intro fuel cs x hx
  rcases open_slice ht hx with ⟨rfl, _⟩ | ⟨a, len, cap, m, n, D, Pl, rfl, _, hl, hcm, hm, _, hi⟩
  · exact ⟨[], none, 0, rfl, Nat.le_refl _, Nat.zero_le _, RowAt.nil _ _ _ _ _⟩
  · have hlm : len ≤ m := by rw [hm]; split <;> omega
    have hel : ∀ i, i < len → ∃ p : α × List Value, R.rel w w.heap.size p.1 p.2 ∧ ∀ j, j < R.size → w.cell? (a.add (i * R.size + j)) = p.2[j]? := by
      intro i hil
      obtain ⟨cs', hc, hd⟩ := hi i (by omega)
      rw [hs] at hc
      obtain ⟨_, hlen, hat⟩ := World.cells?_some hc
      obtain ⟨y, hy⟩ := h _ _ _ hd
      exact ⟨(y, cs'), hy, fun j hj => by rw [← add_of_add]; exact hat j hj⟩
    rcases Nat.eq_zero_or_pos len with hz | hz
    · subst hz
      exact ⟨[], some a, cap, rfl, Nat.zero_le _, hcm, RowAt.nil _ _ _ _ _⟩
    haveI : Inhabited (α × List Value) := ⟨Classical.choose (hel 0 hz)⟩
    obtain ⟨f, hf⟩ := choose_lt hel
    refine ⟨(List.range len).map fun i => (f i).1, some a, cap, by simp, by simpa using hl, hcm, (List.range len).map fun i => (f i).2, by simp, ?_, fun hp => ?_⟩
    · intro i y cs hy hc
      simp only [List.getElem?_map, Option.map_eq_some_iff] at hy hc
      obtain ⟨i1, h1, rfl⟩ := hy
      obtain ⟨i2, h2, rfl⟩ := hc
      rw [h1] at h2
      injection h2 with h2
      subst h2
      obtain ⟨h3, h4⟩ := List.getElem?_eq_some_iff.1 h1
      simp at h3 h4
      exact (hf i1 (by omega)).1
    · simp at hp
      obtain ⟨b, off, spot⟩ := a
      have hcell : ∀ i j, i < len → j < R.size → w.cell? ((⟨b, off, spot⟩ : Addr).add (i * R.size + j)) = (f i).2[j]? := fun i j hi' hj => (hf i hi').2 j hj
      have hlen2 : ∀ i, i < len → (f i).2.length = R.size := fun i hi' => R.len (hf i hi').1
      have hfirst : ∃ u, w.cell? ⟨b, off, spot⟩ = some u := by
        have := hcell 0 0 hp h0
        rw [List.getElem?_eq_getElem (by rw [hlen2 0 hp]; exact h0)] at this
        exact ⟨_, by simpa [Addr.add] using this⟩
      obtain ⟨u, hu⟩ := hfirst
      have hspot : spot = none := World.cell?_spot hu
      subst hspot
      obtain ⟨xs, t', fz, hh⟩ : ∃ xs t' fz, w.heap[b]? = some (.cells xs t' fz) := by
        unfold World.cell? at hu
        split at hu
        · rename_i c t' fz hh; exact ⟨c, t', fz, hh⟩
        · cases hu
      refine ⟨b, off, xs, t', fz, rfl, (Array.getElem?_eq_some_iff.1 hh).1, .inl (Array.getElem?_eq_some_iff.1 hh).1, hh, fun i j cs u' hi' hj' => ?_⟩
      simp only [List.getElem?_map, Option.map_eq_some_iff] at hi'
      obtain ⟨i1, h1, rfl⟩ := hi'
      obtain ⟨h3, h4⟩ := List.getElem?_eq_some_iff.1 h1
      simp at h3 h4
      subst h4
      have hjl : j < R.size := by rw [← hlen2 i h3]; exact (List.getElem?_eq_some_iff.1 hj').1
      have := hcell i j h3 hjl
      rw [add_plain, cell_of_row w b _ xs t' fz hh, hj', ← Nat.add_assoc] at this
      exact this
end
end Go.Proofs.YtnhebmgibiomnaaGreat
namespace Go.Proofs.YtnhebmgibiomnaaGreat
open Go.ChangeShapes Go.WideShapes Go.ChangeAt Go.RowKit Go.Deep Mc
def ptR (N0 : Nat) : Repr N0 (Int × Int) := Repr.pair Repr.int Repr.int
theorem ptR_eq {N0 : Nat} {w : World} {B : Nat} {x : Int × Int} {cs : List Value} (h : (ptR N0).rel w B x cs) : cs = [.int .i64 x.1, .int .i64 x.2] := by
  obtain ⟨_, _, rfl, ⟨rfl, _⟩, rfl, _⟩ := h; rfl
theorem int_eq {N0 : Nat} {w : World} {B : Nat} {x : Int} {cs : List Value} (h : (Repr.int (N0 := N0)).rel w B x cs) : cs = [.int .i64 x] := h.1
theorem ints_flat (l : List Int) : ints l = l.flatMap fun x => [.int .i64 x] := by
  induction l with
  | nil => rfl
  | cons x r ih => simp only [ints, List.map_cons, List.flatMap_cons, List.cons_append, List.nil_append] at *; rw [ih]
def zoneR (N0 : Nat) : Repr N0 (List (Int × Int) × List (Int × Int) × List Int × List Int) := Repr.pair (Repr.row 76 (ptR N0)) (Repr.pair (Repr.row 76 (ptR N0)) (Repr.pair (Repr.row 3 Repr.int) (Repr.row 3 Repr.int)))
section
variable {H : Type} {enc : TypeId × Value → H} {w : World} {spare : Nat → Bool} {held : Bool}
set_option maxRecDepth 100000 in
theorem opens_pt : Opens enc Tryz.prog w spare held (ptR w.heap.size) 76 :=
  opens_struct Tryz.underlying76 (by kernel_rfl) (opens_fields rfl (opens_int Tryz.underlying3) (by kernel_rfl) rfl (opens_field rfl (opens_int Tryz.underlying3) (by kernel_rfl)))
set_option maxRecDepth 100000 in
theorem opens_pts : Opens enc Tryz.prog w spare held (Repr.row 76 (ptR w.heap.size)) 28 := opens_row Tryz.underlying28 (by kernel_rfl) (show 0 < 2 by decide) opens_pt
set_option maxRecDepth 100000 in
theorem opens_nums : Opens enc Tryz.prog w spare held (Repr.row 3 (Repr.int (N0 := w.heap.size))) 22 := opens_row Tryz.underlying22 (by kernel_rfl) (show 0 < 1 by decide) (opens_int Tryz.underlying3)
set_option maxRecDepth 100000 in
theorem opens_zone : Opens enc Tryz.prog w spare held (zoneR w.heap.size) 30 :=
  opens_struct Tryz.underlying30 (by kernel_rfl) (opens_fields rfl opens_pts (by kernel_rfl) rfl (opens_fields rfl opens_pts (by kernel_rfl) rfl (opens_fields rfl opens_nums (by kernel_rfl) rfl (opens_field rfl opens_nums (by kernel_rfl)))))
theorem zone_open {fuel : Nat} {cs : List Value} {x : DataW H × List MemPlace} (h : DataW.trod enc Tryz.prog w 0 spare held fuel 30 cs = some x) :
    ∃ (z : Zn) (oA uA tA eA : Option Addr) (oc uc tc ec : Nat), cs = [.slice oA z.org.length oc, .slice uA z.cur.length uc, .slice tA z.touch.length tc, .slice eA z.ends.length ec] ∧ z.org.length ≤ oc ∧ z.cur.length ≤ uc ∧ z.touch.length ≤ tc ∧ z.ends.length ≤ ec ∧ ZnAt w w.heap.size z oA uA tA eA := by
  obtain ⟨⟨o, u, t, e⟩, _, _, rfl, ⟨oA, oc, rfl, a1, a2, a3⟩, _, _, rfl, ⟨uA, uc, rfl, b1, b2, b3⟩, _, _, rfl, ⟨tA, tc, rfl, c1, c2, c3⟩, eA, ec, rfl, d1, d2, d3⟩ := opens_zone _ _ _ h
  refine ⟨⟨o, u, t, e⟩, oA, uA, tA, eA, oc, uc, tc, ec, rfl, a1, b1, c1, d1, ?_, ?_, ?_, ?_⟩
  · exact a3.reads _ fun a cs h => ptR_eq h
  · exact b3.reads _ fun a cs h => ptR_eq h
  · rw [ints_flat]; exact c3.reads _ fun a cs h => int_eq h
  · rw [ints_flat]; exact d3.reads _ fun a cs h => int_eq h
end
end Go.Proofs.YtnhebmgibiomnaaGreat
namespace Go.Proofs.YtnhebmgibiomnaaGreat
open Go.RowKit
end Go.Proofs.YtnhebmgibiomnaaGreat
namespace Go.Proofs.YtnhebmgibiomnaaGreat
open Go.RowKit
def insR (N0 : Nat) : Repr N0 (Int × Int) := Repr.pair Repr.int Repr.int
def codeR (N0 : Nat) : Repr N0 (List (Int × Int)) := Repr.row 96 (insR N0)
end Go.Proofs.YtnhebmgibiomnaaGreat
namespace Go.Proofs.YtnhebmgibiomnaaGreat
open Go.RowKit
theorem Repr.fr {N0 : Nat} {α : Type} (R : Repr N0 α) {w w' : World} {B : Nat} {a : α} {cs : List Value} (h : R.rel w B a cs) {M : Nat} {tM : TypeId} {xM : Array Value} (hf : Fr (fun k => k = M) w w') (hM : Blk w M tM xM) (hne : tM ∉ R.tys) (hN : N0 ≤ M) : R.rel w' B a cs :=
  R.keep h fun g t xs fz _ ht hh => by
    have hlt : g < w.heap.size := (Array.getElem?_eq_some_iff.1 hh).1
    rw [hf.block g hlt]
    · exact hh
    · rintro rfl
      rcases ht with ht | ht
      · omega
      · unfold Blk at hM
        rw [hM] at hh
        injection hh with hh
        injection hh with _ h2
        exact hne (h2 ▸ ht)
theorem OwnAt.fr {N0 : Nat} {α : Type} {R : Repr N0 α} {t : TypeId} {base : Nat} {w w' : World} {v : Value} {l : List α} (h : OwnAt R t base w v l) {M : Nat} {tM : TypeId} {xM : Array Value} (hf : Fr (fun k => k = M) w w') (hM : Blk w M tM xM) (hne : tM ∉ t :: R.tys) (hN : N0 ≤ M) : OwnAt R t base w' v l :=
  h.keep hf.size fun g t xs fz ht hh => by
    have hlt : g < w.heap.size := (Array.getElem?_eq_some_iff.1 hh).1
    rw [hf.block g hlt]
    · exact hh
    · rintro rfl
      rcases ht with ht | ht
      · omega
      · unfold Blk at hM
        rw [hM] at hh
        injection hh with hh
        injection hh with _ h2
        exact hne (h2 ▸ ht)
theorem Repr.setCell {N0 : Nat} {α : Type} (R : Repr N0 α) {w : World} {B : Nat} {a : α} {cs : List Value} (h : R.rel w B a cs) {g0 : Nat} {t0 : TypeId} {xs0 : Array Value} (hb : Blk w g0 t0 xs0) (hne : t0 ∉ R.tys) (hN : N0 ≤ g0) (i : Nat) (u : Value) : R.rel (w.setCell ⟨g0, i, none⟩ u) B a cs :=
  R.keep h fun g t xs fz _ ht hh => by
    rcases ht with ht | ht
    · rw [Below.heap_setCell _ _ _ _ (by simp; omega)]; exact hh
    · exact set_keeps hb i u g t xs fz (fun e => hne (e ▸ ht)) hh
theorem size_setCell (w : World) (p : Addr) (u : Value) : (w.setCell p u).heap.size = w.heap.size := by simp [World.setCell]
end Go.Proofs.YtnhebmgibiomnaaGreat
namespace Go.Proofs.YtnhebmgibiomnaaGreat
open Go.RowKit
section
variable {P : Program} (w : World)
end
end Go.Proofs.YtnhebmgibiomnaaGreat
namespace Go.Proofs.YtnhebmgibiomnaaGreat
open Go.RowKit
section
variable {N0 : Nat} {α : Type} {R : Repr N0 α} {t : TypeId} {base : Nat} {w : World} {v : Value} {l : List α}
theorem OwnAt.blk (h : OwnAt R t base w v l) {g n cap : Nat} (hv : v = .slice (some ⟨g, 0, none⟩) n cap) : base ≤ g ∧ ∃ xs, Blk w g t xs := by
  obtain ⟨css, ho, _, _⟩ := h
  rcases ho.2 with ⟨h', _⟩ | ⟨g', cap', cur, h', hg, hh, _⟩
  · rw [hv] at h'; cases h'
  · rw [hv] at h'; injection h' with h'; injection h' with h'; injection h' with h'; subst h'; exact ⟨hg, cur, hh⟩
theorem OwnAt.far (h : OwnAt R t base w v l) {k : Nat} {t0 : TypeId} {xs : Array Value} (hb : Blk w k t0 xs) (hd : ∀ k', v.ownBlock = some k' → k' ≠ k) (hne : t0 ∉ R.tys) (hN : N0 ≤ k) (i : Nat) (u : Value) : OwnAt R t base (w.setCell ⟨k, i, none⟩ u) v l := by
  obtain ⟨css, ho, h1, h2⟩ := h
  refine ⟨css, ⟨ho.1, ?_⟩, h1, fun j a cs ha hc => ?_⟩
  · rcases ho.2 with h | ⟨g, cap, cur, hv, hle, hh, hr⟩
    · exact .inl h
    · exact .inr ⟨g, cap, cur, hv, hle, by rw [Below.heap_setCell _ _ _ _ (by have := hd g (by rw [hv]; rfl); simpa using this)]; exact hh, hr⟩
  · rw [size_setCell]; exact R.setCell (h2 j a cs ha hc) hb hne hN _ _
end
end Go.Proofs.YtnhebmgibiomnaaGreat
namespace Go.Proofs.YtnhebmgibiomnaaGreat
open Go.RowKit
structure MkC where
  M : Nat
  B : Nat
  sA : Option Addr
  sn : Nat
  sc : Nat
  c2 : Value
  c3 : Value
  c4 : Value
  c5 : Value
  c6 : Value
  c7 : Value
  c8 : Value
  c9 : Value
  c10 : Value
  c11 : Value
def Mk (w : World) (m : MkC) : Prop :=
  ∃ at_ : Nat, at_ ≤ m.sn ∧ m.sn ≤ 1000000000000 ∧ m.B ≤ m.M ∧ Blk w m.M 121 #[.slice m.sA m.sn m.sc, .int .i64 at_, m.c2, m.c3, m.c4, m.c5, m.c6, m.c7, m.c8, m.c9, m.c10, m.c11] ∧
    ∃ xs : List Int, Reads w m.B 1 m.sA m.sn (xs.map (Value.int .i64)) ∧ ∀ x ∈ xs, I64 x
theorem Mk.lt {w : World} {m : MkC} (h : Mk w m) : m.M < w.heap.size := by
  obtain ⟨_, _, _, _, hb, _⟩ := h; exact hb.lt
theorem Mk.cells {w : World} {m : MkC} (h : Mk w m) :
    (∀ i, 2 ≤ i → w.cell? ⟨m.M, i, none⟩ = (#[m.c2, m.c3, m.c4, m.c5, m.c6, m.c7, m.c8, m.c9, m.c10, m.c11] : Array Value)[i - 2]?) ∧ ∀ i, w.frozen? ⟨m.M, i, none⟩ = false := by
  obtain ⟨_, _, _, _, hb, _⟩ := h
  refine ⟨fun i hi => ?_, hb.frozen⟩
  rw [hb.cell]
  obtain ⟨j, rfl⟩ : ∃ j, i = j + 2 := ⟨i - 2, by omega⟩
  simp
abbrev FrM (M : Nat) (w w' : World) : Prop := Fr (fun k => k = M) w w'
end Go.Proofs.YtnhebmgibiomnaaGreat
namespace Go.Proofs.YtnhebmgibiomnaaGreat
open Go.RowKit
def pointR (N0 : Nat) : Repr N0 (Int × Int × Bool) := Repr.pair Repr.int (Repr.pair Repr.int Repr.bool)
section
variable (N0 : Nat) (m : MkC) (w0 : World)
structure OutI (ob : Nat) (wx : World) (vp ve : Value) (l : List (Int × Int × Bool)) (es : List Int) : Prop where
  box : Blk wx ob 68 #[vp, ve]
  pts : OwnAt (pointR N0) 230 w0.heap.size wx vp l
  ends : OwnAt (Repr.int (N0 := N0)) 3 w0.heap.size wx ve es
  hmk : Mk wx m
  fr : FrM m.M w0 wx
  hob : w0.heap.size ≤ ob
  hM : N0 ≤ m.M ∧ m.M < w0.heap.size
end
section
variable {N0 : Nat} {m : MkC} {w0 wx wy : World} {ob : Nat} {vp ve : Value} {l : List (Int × Int × Bool)} {es : List Int}
theorem OutI.alloc (h : OutI N0 m w0 ob wx vp ve l es) (o : Obj) : OutI N0 m w0 ob (wx.alloc o) vp ve l es := by
  obtain ⟨at_, ha, hs, hBM, hb, xs, hr, hx⟩ := h.hmk
  have hl := hb.lt
  exact ⟨h.box.alloc o, h.pts.below ((Below.refl _ _).alloc (Nat.le_refl _) _) (Nat.le_refl _), h.ends.below ((Below.refl _ _).alloc (Nat.le_refl _) _) (Nat.le_refl _), ⟨at_, ha, hs, hBM, hb.alloc o, xs, hr.alloc (by omega) o, hx⟩, h.fr.alloc o, h.hob, h.hM⟩
theorem OutI.drew (h : OutI N0 m w0 ob wx vp ve l es) : OutI N0 m w0 ob wx.drew vp ve l es :=
  ⟨h.box, h.pts.below (Below.refl wx.heap.size wx).drew (Nat.le_refl _), h.ends.below (Below.refl wx.heap.size wx).drew (Nat.le_refl _), h.hmk, h.fr.drew, h.hob, h.hM⟩
theorem Mk.grown {α : Type} {R : Repr N0 α} {t : TypeId} {base : Nat} {v : Value} {l : List α} (h : Mk wx m) (ho : OwnAt R t base wx v l) (hg : wx.grownBy wy v.ownBlock) (hne : 121 ≠ t) (hb : m.M < base) : Mk wy m := by
  obtain ⟨at_, ha, hs, hBM, hbk, xs, hr, hx⟩ := h
  refine ⟨at_, ha, hs, hBM, hbk.grownOwn ho hg hne, xs, hr.keep fun p hp => ?_, hx⟩
  exact World.cell?_of_block (w := wx) (hg.block p.block (by have := hbk.lt; omega) fun e => by obtain ⟨h1, _⟩ := ho.block e.symm; omega)
theorem Mk.alloc (h : Mk wx m) (o : Obj) : Mk (wx.alloc o) m := by
  obtain ⟨at_, ha, hs, hBM, hb, xs, hr, hx⟩ := h
  have hl := hb.lt
  exact ⟨at_, ha, hs, hBM, hb.alloc o, xs, hr.alloc (by omega) o, hx⟩
theorem Mk.setCell (h : Mk wx m) {p : Addr} (hp : m.M < p.block) (u : Value) : Mk (wx.setCell p u) m := by
  obtain ⟨at_, ha, hs, hBM, hb, xs, hr, hx⟩ := h
  exact ⟨at_, ha, hs, hBM, hb.far (by omega) u, xs, hr.setCell (by omega) u, hx⟩
end
end Go.Proofs.YtnhebmgibiomnaaGreat
namespace Go.Proofs.YtnhebmgibiomnaaGreat
open Go.ChangeShapes Go.WideShapes Go.ChangeAt Go.RowKit Go.Deep
section
variable {H : Type} {enc : TypeId × Value → H} {w : World} {spare : Nat → Bool} {held : Bool}
set_option maxRecDepth 100000 in
theorem opens_ins : Opens enc Tryz.prog w spare held (insR w.heap.size) 96 :=
  opens_struct Tryz.underlying96 (by kernel_rfl) (opens_fields rfl (opens_int Tryz.underlying3) (by kernel_rfl) rfl (opens_field rfl (opens_int Tryz.underlying3) (by kernel_rfl)))
set_option maxRecDepth 100000 in
theorem opens_code : Opens enc Tryz.prog w spare held (codeR w.heap.size) 24 := opens_row Tryz.underlying24 (by kernel_rfl) (show 0 < 2 by decide) opens_ins
set_option maxRecDepth 100000 in
theorem opens_rows : Opens enc Tryz.prog w spare held (Repr.row 24 (codeR w.heap.size)) 23 := opens_row Tryz.underlying23 (by kernel_rfl) (show 0 < 1 by decide) opens_code
end
end Go.Proofs.YtnhebmgibiomnaaGreat
