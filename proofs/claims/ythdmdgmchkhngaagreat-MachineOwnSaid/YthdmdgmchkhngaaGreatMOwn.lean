/- MachineOwn's walk. -/
import Derived.Test.YthdmdgmchkhngaaGreatMadeN
import Derived.Test.YthdmdgmchkhngaaGreatOwnW
import Derived.Test.YthdmdgmchkhngaaGreatMnE
import Derived.Test.YthdmdgmchkhngaaGreatMcSz
import Derived.Test.YthdmdgmchkhngaaGreatPt4
import Derived.Test.YthdmdgmchkhngaaGreatRsB
namespace Go.Proofs.YthdmdgmchkhngaaGreat
open Go.RowKit Mc

set_option maxRecDepth 100000 in
/-- a cut slice, as seed tells it -/
theorem seed_any (A : Option Addr) (n ac m : Nat) (w : World) (hn : n ≤ ac) (hm : m = min n 600) (hac : (ac : Int) ≤ 9223372036854775807) :
    Calls Tryz.prog 11 #[.slice A n ac] w fun e w' => e = .returned (.slice A m ac) ∧ w = w' := by
  go_enter Tryz.func11, Tryz.ntmps11
  by_cases h : (600 : Int) < (n : Int)
  · have hm6 : m = 600 := by omega
    subst hm6
    clear hm
    go_wp2_with fail
    go_ret
    exact ⟨rfl, rfl⟩
  · have hmn : m = n := by omega
    subst hmn
    clear hm
    go_wp2_with fail
    go_ret
    exact ⟨rfl, rfl⟩
theorem ZnAt.more7 {w : World} {B B' : Nat} {z : Zn} {oA uA tA eA : Option Addr} (h : ZnAt w B z oA uA tA eA) (hB : B ≤ B') : ZnAt w B' z oA uA tA eA := ⟨h.org.more hB, h.cur.more hB, h.touch.more hB, h.ends.more hB⟩
theorem PgAt.more7 {w : World} {B B' : Nat} {p : Pg} {fA mA cA : Option Addr} (h : PgAt w B p fA mA cA) (hB : B ≤ B') : PgAt w B' p fA mA cA := by
  obtain ⟨⟨cs, h1, h2⟩, h3, h4⟩ := h
  exact ⟨⟨cs, h1.more hB, fun i code hc => by obtain ⟨A, c, a, b⟩ := h2 i code hc; exact ⟨A, c, a, b.more hB⟩⟩, h3.more hB, h4.more hB⟩
theorem pg_of {N0 B : Nat} {W : World} {A0 A1 A2 : Option Addr} {c0 c1 c2 : Nat} {fl : List (List (Int × Int))} {ml : List (Int × Int)} {cl : List Int} {size : Int} (h : ProgAt N0 B W A0 A1 A2 c0 c1 c2 fl ml cl size) : PgAt W B ⟨fl, ml, cl, size⟩ A0 A1 A2 := by
  refine ⟨?_, ?_, ?_⟩
  · obtain ⟨vs, h1, h2⟩ := rowsR_at h.f.2.2
    refine ⟨vs, h1, fun i code hc => ?_⟩
    obtain ⟨v, h3, A, c, rfl, h4⟩ := h2 i code hc
    rw [insCells_flat] at h4
    exact ⟨A, c, h3, h4⟩
  · have := codeR_reads h.m.2.2
    rwa [insCells_flat] at this
  · have := h.c.2.2.reads (fun x => [.int .i64 x]) fun _ _ h => h.1
    show Reads W B 1 A2 cl.length (cl.map (Value.int .i64))
    rw [List.map_eq_flatMap]
    exact this
theorem reads_take_ {w : World} {B size n m : Nat} {A : Option Addr} {xs : List Value} (h : Reads w B size A n xs) (hm : m ≤ n) : Reads w B size A m (xs.take (m * size)) := by
  refine ⟨by rw [List.length_take, h.1]; exact Nat.min_eq_left (Nat.mul_le_mul_right _ hm), fun hp => ?_⟩
  obtain ⟨b, off, e, hb, hc⟩ := h.2 (by omega)
  refine ⟨b, off, e, hb, fun j u hu => hc j u ?_⟩
  rw [List.getElem?_take] at hu
  split at hu
  · exact hu
  · cases hu
/-- a row that may be written -/
def RowW (W : World) (lo : Nat) (t : TypeId) (size : Nat) (A : Option Addr) (n : Nat) : Prop := 0 < n → ∃ g, A = some ⟨g, 0, none⟩ ∧ lo ≤ g ∧ ∃ cs, Blk W g t cs ∧ n * size ≤ cs.size
theorem RowW.of_own {W : World} {base size n c : Nat} {t : TypeId} {A : Option Addr} {xs : List Value} (h : W.ownsRow base t size (.slice A n c) n xs) : RowW W base t size A n := by
  intro hn
  rcases h.2 with ⟨_, h0⟩ | ⟨g, cap, cur, e, hg, hh, h1, h2, h3, h4⟩
  · omega
  · injection e with e
    refine ⟨g, e, hg, cur, hh, ?_⟩
    have := congrArg List.length h4
    rw [List.length_take, h.1] at this
    simp only [Array.length_toList] at this
    omega
theorem RowW.setCell {W : World} {lo size n : Nat} {t : TypeId} {A : Option Addr} (h : RowW W lo t size A n) (g i : Nat) (u : Value) : RowW (W.setCell ⟨g, i, none⟩ u) lo t size A n := by
  intro hn
  obtain ⟨g', e, hl, cs, hb, hc⟩ := h hn
  by_cases hg : g' = g
  · subst hg
    exact ⟨g', e, hl, _, hb.set_ i u, by simpa using hc⟩
  · exact ⟨g', e, hl, cs, hb.far (p := ⟨g, i, none⟩) hg u, hc⟩
theorem RowW.keep {W W' : World} {lo size n : Nat} {t : TypeId} {A : Option Addr} (h : RowW W lo t size A n) (hk : Grow W W') : RowW W' lo t size A n := by
  intro hn
  obtain ⟨g', e, hl, cs, hb, hc⟩ := h hn
  exact ⟨g', e, hl, cs, hk.blk hb (fun x => x), hc⟩
theorem RowW.mono {W : World} {lo lo' size n : Nat} {t : TypeId} {A : Option Addr} (h : RowW W lo t size A n) (hl : lo' ≤ lo) : RowW W lo' t size A n := fun hn => by
  obtain ⟨g', e, h1, h2⟩ := h hn
  exact ⟨g', e, by omega, h2⟩
theorem grow_set {W X : World} {p : Addr} (h : Grow W X) (hp : W.heap.size ≤ p.block) (u : Value) : Grow W (X.setCell p u) := h.setCell (.inr hp) u
/-- a told run whose rows are being written -/
structure MuI (w0 : World) (rb : Nat) (F2 F3 F7 : Option Addr) (n2 n3 n7 : Nat) (cs : Array Value) (wx : World) : Prop where
  gr : Grow w0 wx
  hb : Blk wx rb 43 cs
  hr : w0.heap.size ≤ rb
  cu : RowW wx w0.heap.size 50 2 F2 n2
  tq : RowW wx w0.heap.size 3 1 F3 n3
  sk : RowW wx w0.heap.size 3 1 F7 n7
theorem MuI.set {w0 : World} {rb : Nat} {F2 F3 F7 : Option Addr} {n2 n3 n7 : Nat} {cs : Array Value} {wx : World} (h : MuI w0 rb F2 F3 F7 n2 n3 n7 cs wx) {g : Nat} (hg : w0.heap.size ≤ g) (hne : rb ≠ g) (i : Nat) (u : Value) : MuI w0 rb F2 F3 F7 n2 n3 n7 cs (wx.setCell ⟨g, i, none⟩ u) :=
  ⟨grow_set h.gr (p := ⟨g, i, none⟩) hg u, h.hb.far (p := ⟨g, i, none⟩) hne u, h.hr, h.cu.setCell g i u, h.tq.setCell g i u, h.sk.setCell g i u⟩
def Mu (w0 : World) (rb : Nat) (F2 F3 F7 : Option Addr) (n2 n3 n7 : Nat) (cs : Array Value) (i : Value) (wx : World) : Prop := ∃ k : Nat, i = .int .i64 k ∧ k ≤ 1000000 ∧ MuI w0 rb F2 F3 F7 n2 n3 n7 cs wx
def Ten (wb : Nat) (cs : Array Value) (W : World) : Prop := ∀ i, W.cell? ⟨wb, i, none⟩ = cs[i]?
/-- a machine of the call's own, beside a block of later ones that it does not touch -/
def OwI (Y : World) (lo a mb : Nat) (t : St) (wr : World) : Prop := ∃ O L, MaL wr mb O L t ∧ (∀ q, O q → lo ≤ q ∧ (q < a ∨ Y.heap.size ≤ q)) ∧ Fr (fun q => lo ≤ q ∧ q < a) Y wr
theorem OwI.grow {Y wr wx : World} {lo a mb : Nat} {t : St} (h : OwI Y lo a mb t wr) (hg : Grow wr wx) : OwI Y lo a mb t wx := by
  obtain ⟨O, L, hm, hO, hf⟩ := h
  exact ⟨O, L, hm.grow hg, hO, hf.trans (hg.mono fun _ _ x => x.elim)⟩
theorem OwI.step {Y wr w' : World} {lo a mb : Nat} {t' : St} {O : Nat → Prop} (hlo : lo ≤ Y.heap.size) (hO : ∀ q, O q → lo ≤ q ∧ (q < a ∨ Y.heap.size ≤ q)) (hf : Fr (fun q => lo ≤ q ∧ q < a) Y wr) (hm : ∃ L', MaL w' mb (ext O wr w') L' t') (hs : Fr O wr w') : OwI Y lo a mb t' w' := by
  obtain ⟨L', hm⟩ := hm
  refine ⟨_, L', hm, fun q hq => ?_, ?_⟩
  · rcases hq with hq | hq
    · exact hO q hq
    · have := hf.size; exact ⟨by omega, .inr (by omega)⟩
  · refine ⟨hs.os.trans hf.os, hs.tape.trans hf.tape, hs.output.trans hf.output, Nat.le_trans hf.size hs.size, fun k hk hn => (hs.block k (Nat.lt_of_lt_of_le hk hf.size) fun hq => ?_).trans (hf.block k hk hn)⟩
    have := hO k hq
    exact hn ⟨this.1, by omega⟩
/-- the rounds: what is left to do of 3000 steps ends as it does -/
def OwR (Y : World) (lo a mb : Nat) (T S0 : St) (i : Value) (wr : World) : Prop := ∃ (k : Nat) (t : St), i = .int .i64 k ∧ k ≤ 3000 ∧ OwI Y lo a mb t wr ∧ Mc.steps (3000 - k) t = (T, false) ∧ t.steps ≤ k ∧ Mr.Er t ∧ (∃ j, t = Mr.iter j S0)
theorem step_er {s t : St} {b : Bool} (h : Mr.Er s) (hs : Mc.step s = (t, b)) : Mr.Er t := by
  rcases Mr.step_cases s h with ⟨u, e, _, _, he, _⟩ | ⟨u, e, _, he, _⟩
  · rw [hs] at e; injection e with x _; subst x; exact he
  · rw [hs] at e; injection e with x _; subst x; exact he
theorem iter_small (j : Nat) (p : Pg) (z : Zn) (h1 : z.cur.length ≤ 1000000) (h2 : z.ends.length ≤ 1000000) (h3 : p.cvt.length ≤ 1000000) :
    (Mr.iter j (begin_ p z)).org.length ≤ 1000000 ∧ (Mr.iter j (begin_ p z)).cur.length ≤ 1000000 ∧ (Mr.iter j (begin_ p z)).touch.length ≤ 1000000 ∧ (Mr.iter j (begin_ p z)).ends.length ≤ 1000000 ∧ (Mr.iter j (begin_ p z)).cvt.length ≤ 1000000 ∧ (Mr.iter j (begin_ p z)).store.length = 32 ∧ (Mr.iter j (begin_ p z)).stack.length ≤ 32 := by
  obtain ⟨a, b, c, d, e, f⟩ := Mr.iter_sz j (Mr.begin_sz p z)
  exact ⟨by omega, by omega, by omega, by omega, by omega, f, Mr.iter_stack j (by simp [begin_])⟩

set_option maxHeartbeats 4000000 in
set_option maxRecDepth 100000 in
theorem machineOwn_walk (A : Option Addr) (ac : Nat) (xs : List Int) (w : World) (h1 : xs.length ≤ ac) (h2 : ac ≤ maxLen) (hr : RowAt (Repr.int (N0 := w.heap.size)) 3 w w.heap.size A xs) :
    Calls Tryz.prog 6 #[.slice A xs.length ac] w fun e w' => e = .returned (.bool true) ∧ Below w.heap.size w w' := by
  have hrd : Reads w w.heap.size 1 A xs.length (xs.map (Value.int .i64)) := by
    have := hr.reads (fun x => [.int .i64 x]) fun _ _ h => h.1
    rw [List.map_eq_flatMap]
    exact this
  have hxi : ∀ x ∈ xs, I64 x := by
    intro x hx
    obtain ⟨i, hi⟩ := List.getElem?_of_mem hx
    obtain ⟨_, _, _, _, _, hrel, _⟩ := hr.get hi
    exact hrel.2
  obtain ⟨m, hmn⟩ : ∃ m, m = min xs.length 600 := ⟨_, rfl⟩
  have hml : m ≤ xs.length ∧ m ≤ 600 := by omega
  have hr2 := reads_take_ hrd hml.1
  rw [Nat.mul_one, ← List.map_take] at hr2
  have hxi2 : ∀ x ∈ xs.take m, I64 x := fun x hx => hxi x (List.mem_of_mem_take hx)
  have hyl : (xs.take m).length = m := by rw [List.length_take]; omega
  have HR := Lib.hid hr2
  have HX := Lib.hid hxi2
  have HYL := Lib.hid hyl
  unfold maxLen at h2
  have hac : (ac : Int) ≤ 9223372036854775807 := by omega
  have hn : xs.length ≤ ac := h1
  have HMN := Lib.hid hmn
  clear hr hrd hr2 hxi hxi2 h2 hyl h1 hmn
  generalize hnx : xs.length = n at *
  generalize xs.take m = ys at *
  clear hnx
  go_enter Tryz.func6, Tryz.ntmps6
  go_wp2_with fail
  refine (awake_any w).mono ?_
  rintro e' X ⟨rfl, hbl⟩
  have HB0 := Lib.hid hbl
  clear hbl
  go_wp2_with fail
  refine (seed_any A n ac m X hn HMN.out hac).mono ?_
  rintro e w5 ⟨rfl, rfl⟩
  go_wp2_with fail
  refine (made18_anyW w.heap.size X A m ac ys HB0.out.size ((HR.out.below HB0.out (Nat.le_refl _)).more HB0.out.size) HX.out (by omega)).mono ?_
  rintro e w2 ⟨A0, A1, A3, c0, c1, c3, fl, ml, cl, size, rfl, hpr, hf, hfns, hhint, hb2⟩
  have hmade := fun z => made_ends (cl := cl) (size := size) z hf hfns hhint
  have HMADE := Lib.hid hmade
  have HFB := Lib.hid hfns.1
  have hm' := hhint.1
  have HPR := Lib.hid hpr
  have HB1 := Lib.hid (HB0.out.trans (hb2.mono HB0.out.size))
  clear hmade hfns hhint hpr hb2 HB0
  go_upto_region 3 with fail
  have HPR1 := Lib.hid ((HPR.out.below ((Below.refl w2.heap.size w2).alloc (Nat.le_refl _) (.cells #[.slice A0 fl.length c0, .slice A1 ml.length c1, .slice A3 cl.length c3, .int .i64 size] 28)) (Nat.le_refl _)).more (show w2.heap.size ≤ (w2.alloc (.cells #[.slice A0 fl.length c0, .slice A1 ml.length c1, .slice A3 cl.length c3, .int .i64 size] 28)).heap.size by simp))
  have HP1 := Lib.hid (Blk.new w2 28 #[.slice A0 fl.length c0, .slice A1 ml.length c1, .slice A3 cl.length c3, .int .i64 size])
  have HB2 := Lib.hid (HB1.out.alloc HB1.out.size (.cells #[.slice A0 fl.length c0, .slice A1 ml.length c1, .slice A3 cl.length c3, .int .i64 size] 28))
  have hpw : w2.heap.size < (w2.alloc (.cells #[.slice A0 fl.length c0, .slice A1 ml.length c1, .slice A3 cl.length c3, .int .i64 size] 28)).heap.size := by simp
  clear HPR HB1
  generalize hpb : w2.heap.size = pb at *
  generalize hX1 : w2.alloc (.cells #[.slice A0 fl.length c0, .slice A1 ml.length c1, .slice A3 cl.length c3, .int .i64 size] 28) = X1 at *
  clear hpb hX1
  have HPG1 := Lib.hid (pg_of HPR1.out)
  have HPO : Hid (PgOk ⟨fl, ml, cl, size⟩) := Lib.hid ⟨by simp only; omega, fun c hc => by have := HFB.out c hc; omega, by simp only; omega, by have := HPR1.out.k; simp only; omega⟩
  have hzq : ys.length = m := HYL.out
  have HP9 := Lib.hid (fun W h hB => points4_any A ac w.heap.size ys W h hB (by omega))
  rw [hzq] at HP9
  have HZO : Hid (ZnOk (zn4 ys (n4 ys))) := Lib.hid (zn4_ok ys _ (by unfold n4; omega))
  clear hzq HPR1 HX HFB HYL
  generalize zn4 ys (n4 ys) = z at *
  obtain ⟨T, hT⟩ := HMADE.out z
  have HT := Lib.hid hT
  clear hT HMADE
  go_wp2_with fail
  refine (seed_any A n ac m X1 hn HMN.out hac).mono ?_
  rintro e w5 ⟨rfl, rfl⟩
  go_wp2_with fail
  refine (HP9.out X1 (HR.out.below HB2.out (Nat.le_refl _)) HB2.out.size).mono ?_
  rintro e w6 ⟨og, cu, tq, en, rfl, ⟨o1, o2, o3, o4⟩, hg6⟩
  obtain ⟨E1, g1, rfl, _⟩ := owns_form o1
  obtain ⟨E2, g2, rfl, _⟩ := owns_form o2
  obtain ⟨E3, g3, rfl, _⟩ := owns_form o3
  obtain ⟨E4, g4, rfl, _⟩ := owns_form o4
  have HZA6 : Hid (ZnAt w6 w6.heap.size z E1 E2 E3 E4) := Lib.hid ⟨Reads.of_own o1, Reads.of_own o2, Reads.of_own o3, Reads.of_own o4⟩
  have hga : Grow X1 (w6.alloc (.cells #[.slice E1 z.org.length g1, .slice E2 z.cur.length g2, .slice E3 z.touch.length g3, .slice E4 z.ends.length g4] 33)) := Fr.alloc hg6 _
  have HPB := Lib.hid (hga.blk HP1.out (fun x => x))
  have HZB := Lib.hid (Blk.new w6 33 #[.slice E1 z.org.length g1, .slice E2 z.cur.length g2, .slice E3 z.touch.length g3, .slice E4 z.ends.length g4])
  have HB3 := Lib.hid (HB2.out.trans ((Grow.below hga (Nat.le_refl _)).mono HB2.out.size))
  have HPG := Lib.hid ((HPG1.out.keep fun q hq => hga.cell hq (fun x => x)).more7 hga.size)
  have HZA := Lib.hid ((HZA6.out.keep (W' := w6.alloc (.cells #[.slice E1 z.org.length g1, .slice E2 z.cur.length g2, .slice E3 z.touch.length g3, .slice E4 z.ends.length g4] 33)) fun q hq => World.cell?_alloc_lt _ _ _ hq).more7 (show w6.heap.size ≤ (w6.alloc (.cells #[.slice E1 z.org.length g1, .slice E2 z.cur.length g2, .slice E3 z.touch.length g3, .slice E4 z.ends.length g4] 33)).heap.size by simp))
  clear o1 o2 o3 o4 hg6 hga HP1 HB2 HZA6 HPG1
  go_upto_region 4 with fail
  generalize hzb : w6.heap.size = zb at *
  generalize hY : w6.alloc (.cells #[.slice E1 z.org.length g1, .slice E2 z.cur.length g2, .slice E3 z.touch.length g3, .slice E4 z.ends.length g4] 33) = Y at *
  clear hY hzb
  have p0 := HPB.out.cell 0
  have p1 := HPB.out.cell 1
  have p2 := HPB.out.cell 2
  have p3 := HPB.out.cell 3
  have z0 := HZB.out.cell 0
  have z1 := HZB.out.cell 1
  have z2 := HZB.out.cell 2
  have z3 := HZB.out.cell 3
  simp only [List.getElem?_toArray, List.getElem?_cons_zero, List.getElem?_cons_succ] at p0 p1 p2 p3 z0 z1 z2 z3
  have pl := HPB.out.lt
  have zl := HZB.out.lt
  have HRUN := Lib.hid (run_any Y ⟨fl, ml, cl, size⟩ z HPO.out HZO.out A0 A1 A3 E1 E3 E4 E2 c0 c1 c3 g1 g3 g4 g2 HPG.out HZA.out 3000 (by omega))
  go_wp2_with fail
  refine HRUN.out.mono ?_
  rw [show (3000 : Int).toNat = 3000 from rfl, run_of HT.out]
  rintro e w6 ⟨og, cu, tq, en, cv, st, sk, rfl, hra, hbl⟩
  obtain ⟨K1, k1, rfl, _⟩ := owns_form hra.og
  obtain ⟨K2, k2, rfl, _⟩ := owns_form hra.cu
  obtain ⟨K3, k3, rfl, _⟩ := owns_form hra.to
  obtain ⟨K4, k4, rfl, _⟩ := owns_form hra.en
  obtain ⟨K5, k5, rfl, _⟩ := owns_form hra.cv
  obtain ⟨K6, k6, rfl, _⟩ := owns_form hra.st
  obtain ⟨K7, k7, rfl, _⟩ := owns_form hra.sk
  have hg6 : Grow Y (w6.alloc (.cells #[.slice K1 T.org.length k1, .slice K2 T.cur.length k2, .slice K3 T.touch.length k3, .slice K4 T.ends.length k4, .slice K5 T.cvt.length k5, .slice K6 32 k6, .slice K7 T.stack.length k7, .int .i64 T.steps, .int .i64 T.peak, .int .i64 T.err] 43)) := Fr.alloc (Fr.of_below hbl (fun k hk _ => hk)) _
  have HWB := Lib.hid (Blk.new w6 43 #[.slice K1 T.org.length k1, .slice K2 T.cur.length k2, .slice K3 T.touch.length k3, .slice K4 T.ends.length k4, .slice K5 T.cvt.length k5, .slice K6 32 k6, .slice K7 T.stack.length k7, .int .i64 T.steps, .int .i64 T.peak, .int .i64 T.err])
  have HWR := Lib.hid (hra.grow ((Fr.refl _ _).alloc (.cells #[.slice K1 T.org.length k1, .slice K2 T.cur.length k2, .slice K3 T.touch.length k3, .slice K4 T.ends.length k4, .slice K5 T.cvt.length k5, .slice K6 32 k6, .slice K7 T.stack.length k7, .int .i64 T.steps, .int .i64 T.peak, .int .i64 T.err] 43)))
  have HPB1 := Lib.hid (hg6.blk HPB.out (fun x => x))
  have HZB1 := Lib.hid (hg6.blk HZB.out (fun x => x))
  have HB4 := Lib.hid (HB3.out.trans ((Grow.below hg6 (Nat.le_refl _)).mono HB3.out.size))
  have HPG1 := Lib.hid ((HPG.out.keep fun q hq => hg6.cell hq (fun x => x)).more7 hg6.size)
  have HZA1 := Lib.hid ((HZA.out.keep fun q hq => hg6.cell hq (fun x => x)).more7 hg6.size)
  clear HRUN p0 p1 p2 p3 z0 z1 z2 z3 hra hbl hg6 HPB HZB HB3 HPG HZA pl zl
  go_upto_region 5 with fail
  generalize hwb : w6.heap.size = wb at *
  generalize hY2 : w6.alloc (.cells #[.slice K1 T.org.length k1, .slice K2 T.cur.length k2, .slice K3 T.touch.length k3, .slice K4 T.ends.length k4, .slice K5 T.cvt.length k5, .slice K6 32 k6, .slice K7 T.stack.length k7, .int .i64 T.steps, .int .i64 T.peak, .int .i64 T.err] 43) = Y2 at *
  clear hY2 hwb
  have p0 := HPB1.out.cell 0
  have p1 := HPB1.out.cell 1
  have p2 := HPB1.out.cell 2
  have p3 := HPB1.out.cell 3
  have z0 := HZB1.out.cell 0
  have z1 := HZB1.out.cell 1
  have z2 := HZB1.out.cell 2
  have z3 := HZB1.out.cell 3
  simp only [List.getElem?_toArray, List.getElem?_cons_zero, List.getElem?_cons_succ] at p0 p1 p2 p3 z0 z1 z2 z3
  have pl := HPB1.out.lt
  have zl := HZB1.out.lt
  have HNEW := Lib.hid (new_any Y2 ⟨fl, ml, cl, size⟩ z HPO.out HZO.out A0 A1 A3 E1 E3 E4 E2 c0 c1 c3 g1 g3 g4 g2 HPG1.out HZA1.out)
  go_wp2_with fail
  refine HNEW.out.mono ?_
  rintro e w7 ⟨mb, O1, L1, rfl, hm1, hO1, hb1⟩
  have HM1 := Lib.hid hm1
  have HO1 := Lib.hid hO1
  have HB7 := Lib.hid hb1
  have HZB2 := Lib.hid (HZB1.out.below hb1 HZB1.out.lt)
  have HWB2 := Lib.hid (HWB.out.below hb1 HWB.out.lt)
  have HZA2 := Lib.hid ((HZA1.out.keep fun q hq => hb1.cell hq))
  have HWR2 := Lib.hid (hb1)
  have HB5 := Lib.hid (HB4.out.trans (hb1.mono HB4.out.size))
  have hwl := HWB.out.lt
  have hzl := HZB1.out.lt
  have hwlo := HB4.out.size
  clear HNEW p0 p1 p2 p3 z0 z1 z2 z3 hm1 hO1 hb1 HPB1 HZB1 HPG1 HZA1 HWB HWR2 pl zl
  go_wp2_with fail
  refine (seed_any A n ac m w7 hn HMN.out hac).mono ?_
  rintro e w5 ⟨rfl, rfl⟩
  go_wp2_with fail
  refine (HP9.out w7 (HR.out.below HB5.out (Nat.le_refl _)) HB5.out.size).mono ?_
  rintro e w6 ⟨og, cu, tq, en, rfl, ⟨o1, o2, o3, o4⟩, hg6⟩
  obtain ⟨D1, d1, rfl, _⟩ := owns_form o1
  obtain ⟨D2, d2, rfl, _⟩ := owns_form o2
  obtain ⟨D3, d3, rfl, _⟩ := owns_form o3
  obtain ⟨D4, d4, rfl, _⟩ := owns_form o4
  have HD1 := Lib.hid (owns_grow o1 ((Fr.refl _ _).alloc (.cells #[.slice D1 z.org.length d1, .slice D2 z.cur.length d2, .slice D3 z.touch.length d3, .slice D4 z.ends.length d4] 33)))
  have HD2 := Lib.hid (owns_grow o2 ((Fr.refl _ _).alloc (.cells #[.slice D1 z.org.length d1, .slice D2 z.cur.length d2, .slice D3 z.touch.length d3, .slice D4 z.ends.length d4] 33)))
  have HD3 := Lib.hid (owns_grow o3 ((Fr.refl _ _).alloc (.cells #[.slice D1 z.org.length d1, .slice D2 z.cur.length d2, .slice D3 z.touch.length d3, .slice D4 z.ends.length d4] 33)))
  have HD4 := Lib.hid (owns_grow o4 ((Fr.refl _ _).alloc (.cells #[.slice D1 z.org.length d1, .slice D2 z.cur.length d2, .slice D3 z.touch.length d3, .slice D4 z.ends.length d4] 33)))
  have hga : Grow w7 (w6.alloc (.cells #[.slice D1 z.org.length d1, .slice D2 z.cur.length d2, .slice D3 z.touch.length d3, .slice D4 z.ends.length d4] 33)) := Fr.alloc hg6 _
  have HDB := Lib.hid (Blk.new w6 33 #[.slice D1 z.org.length d1, .slice D2 z.cur.length d2, .slice D3 z.touch.length d3, .slice D4 z.ends.length d4])
  have HZA3 := Lib.hid (HZA2.out.keep fun q hq => hga.cell (by have := HB7.out.size; omega) (fun x => x))
  have hOW : OwI (w6.alloc (.cells #[.slice D1 z.org.length d1, .slice D2 z.cur.length d2, .slice D3 z.touch.length d3, .slice D4 z.ends.length d4] 33)) Y2.heap.size w7.heap.size mb (begin_ ⟨fl, ml, cl, size⟩ z) (w6.alloc (.cells #[.slice D1 z.org.length d1, .slice D2 z.cur.length d2, .slice D3 z.touch.length d3, .slice D4 z.ends.length d4] 33)) := ⟨O1, L1, HM1.out.grow hga, fun q hq => ⟨HO1.out q hq, .inl (HM1.out.olt q hq)⟩, Fr.refl _ _⟩
  have HOW := Lib.hid hOW
  have HB6 := Lib.hid (HB5.out.trans ((Grow.below hga (Nat.le_refl _)).mono HB5.out.size))
  have HZB3 := Lib.hid (hga.blk HZB2.out (fun x => x))
  have HWB3 := Lib.hid (hga.blk HWB2.out (fun x => x))
  have HWY := Lib.hid (HB7.out.trans ((Grow.below hga (Nat.le_refl _)).mono HB7.out.size))
  have hya : w7.heap.size ≤ w6.heap.size := hg6.size
  have hy27 : Y2.heap.size ≤ w7.heap.size := HB7.out.size
  have hdb : w6.heap.size < (w6.alloc (.cells #[.slice D1 z.org.length d1, .slice D2 z.cur.length d2, .slice D3 z.touch.length d3, .slice D4 z.ends.length d4] 33)).heap.size := by simp
  clear o1 o2 o3 o4 hg6 hga HZA2 hOW HM1 HO1 HB7 HB5 HZB2 HWB2 HP9 HR HMN HB4
  go_upto_region 9 with fail
  generalize hdb0 : w6.heap.size = db at *
  generalize hY3 : w6.alloc (.cells #[.slice D1 z.org.length d1, .slice D2 z.cur.length d2, .slice D3 z.touch.length d3, .slice D4 z.ends.length d4] 33) = Y3 at *
  clear hY3 hdb0
  generalize ha7 : w7.heap.size = a7 at *
  generalize hl2 : Y2.heap.size = lo at *
  have HL2 := Lib.hid hl2
  clear ha7 hl2
  have hsm := fun j => iter_small j ⟨fl, ml, cl, size⟩ z HZO.out.cur HZO.out.ends HPO.out.cvt
  have her := Mr.begin_er ⟨fl, ml, cl, size⟩ z
  obtain ⟨S0, hS0⟩ : ∃ S0, S0 = begin_ ⟨fl, ml, cl, size⟩ z := ⟨_, rfl⟩
  have hst0 : S0.steps = 0 := by rw [hS0]; rfl
  rw [← hS0] at hsm her HOW HT
  have HSM := Lib.hid hsm
  have HR0 : Hid (OwR Y3 lo a7 mb T S0 (.int .i64 0) Y3) := Lib.hid ⟨0, S0, rfl, by omega, HOW.out, HT.out, by omega, her, 0, rfl⟩
  clear hsm her hS0 hst0 HOW HT HPO
  go_wp2_with fail
  go_loopw [9] (fun i wr => OwR Y3 lo a7 mb T S0 i wr) (fun i _ => 3000 - (intOf i).toNat)
  case atStart => exact HR0.out
  case round =>
    clear HR0
    obtain ⟨k, t, rfl, hk, ⟨O, L, hm, hO, hfr⟩, hst, htk, hert, ⟨j, hj⟩⟩ := hrel
    obtain ⟨wo, rfl⟩ : ∃ wo, wo = wr := ⟨_, rfl⟩
    have HM0 := Lib.hid hm
    have HO0 := Lib.hid hO
    have HF0 := Lib.hid hfr
    have HST := Lib.hid hst
    have HER := Lib.hid hert
    have HJ := Lib.hid hj
    clear hm hO hfr hst hert hj
    by_cases hlt : (k : Int) < 3000
    · have HC := Lib.hid (ran_any wo mb O L t HM0.out)
      go_wp2_with fail
      refine HC.out.mono ?_
      rintro e w8 ⟨og, cu, tq, en, cv, st, sk, rfl, hra, hbl⟩
      obtain ⟨F1, f1, rfl, _⟩ := owns_form hra.og
      obtain ⟨F2, f2, rfl, _⟩ := owns_form hra.cu
      obtain ⟨F3, f3, rfl, _⟩ := owns_form hra.to
      obtain ⟨F4, f4, rfl, _⟩ := owns_form hra.en
      obtain ⟨F5, f5, rfl, _⟩ := owns_form hra.cv
      obtain ⟨F6, f6, rfl, _⟩ := owns_form hra.st
      obtain ⟨F7, f7, rfl, _⟩ := owns_form hra.sk
      have hg8 : Grow wo (w8.alloc (.cells #[.slice F1 t.org.length f1, .slice F2 t.cur.length f2, .slice F3 t.touch.length f3, .slice F4 t.ends.length f4, .slice F5 t.cvt.length f5, .slice F6 32 f6, .slice F7 t.stack.length f7, .int .i64 t.steps, .int .i64 t.peak, .int .i64 t.err] 43)) := Fr.alloc (Fr.of_below hbl (fun k hk _ => hk)) _
      have hra8 := hra.grow ((Fr.refl _ _).alloc (.cells #[.slice F1 t.org.length f1, .slice F2 t.cur.length f2, .slice F3 t.touch.length f3, .slice F4 t.ends.length f4, .slice F5 t.cvt.length f5, .slice F6 32 f6, .slice F7 t.stack.length f7, .int .i64 t.steps, .int .i64 t.peak, .int .i64 t.err] 43))
      have hmu : MuI wo w8.heap.size F2 F3 F7 t.cur.length t.touch.length t.stack.length #[.slice F1 t.org.length f1, .slice F2 t.cur.length f2, .slice F3 t.touch.length f3, .slice F4 t.ends.length f4, .slice F5 t.cvt.length f5, .slice F6 32 f6, .slice F7 t.stack.length f7, .int .i64 t.steps, .int .i64 t.peak, .int .i64 t.err] (w8.alloc (.cells #[.slice F1 t.org.length f1, .slice F2 t.cur.length f2, .slice F3 t.touch.length f3, .slice F4 t.ends.length f4, .slice F5 t.cvt.length f5, .slice F6 32 f6, .slice F7 t.stack.length f7, .int .i64 t.steps, .int .i64 t.peak, .int .i64 t.err] 43)) := ⟨hg8, Blk.new _ _ _, hbl.size, RowW.of_own hra8.cu, RowW.of_own hra8.to, RowW.of_own hra8.sk⟩
      have HMU := Lib.hid hmu
      have hsmt := HSM.out j
      rw [← HJ.out] at hsmt
      have hsmt1 : t.cur.length ≤ 1000000 := hsmt.2.1
      have hsmt2 : t.stack.length ≤ 32 := hsmt.2.2.2.2.2.2
      clear HC hra hbl hg8 hra8 hmu hsmt
      go_upto_region 13 with fail
      generalize hrb : w8.heap.size = rb at *
      generalize hX8 : w8.alloc (.cells #[.slice F1 t.org.length f1, .slice F2 t.cur.length f2, .slice F3 t.touch.length f3, .slice F4 t.ends.length f4, .slice F5 t.cvt.length f5, .slice F6 32 f6, .slice F7 t.stack.length f7, .int .i64 t.steps, .int .i64 t.peak, .int .i64 t.err] 43) = X8 at *
      clear hrb hX8
      generalize hcs : (#[.slice F1 t.org.length f1, .slice F2 t.cur.length f2, .slice F3 t.touch.length f3, .slice F4 t.ends.length f4, .slice F5 t.cvt.length f5, .slice F6 32 f6, .slice F7 t.stack.length f7, .int .i64 t.steps, .int .i64 t.peak, .int .i64 t.err] : Array Value) = cs at *
      have h1c : cs[1]? = some (.slice F2 t.cur.length f2) := by rw [← hcs]; rfl
      have h2c : cs[2]? = some (.slice F3 t.touch.length f3) := by rw [← hcs]; rfl
      have h6c : cs[6]? = some (.slice F7 t.stack.length f7) := by rw [← hcs]; rfl
      clear hcs
      have H1C := Lib.hid h1c
      have H2C := Lib.hid h2c
      have H6C := Lib.hid h6c
      clear h1c h2c h6c
      have HMU0 : Hid (Mu wo rb F2 F3 F7 t.cur.length t.touch.length t.stack.length cs (.int .i64 0) X8) := Lib.hid ⟨0, rfl, by omega, HMU.out⟩
      go_upto_block 2 with (fail)
      go_cut [] (fun wx => MuI wo rb F2 F3 F7 t.cur.length t.touch.length t.stack.length cs wx)
      case first =>
        clear HMU
        go_wp2_with fail
        go_loopw [11] (fun i wx => Mu wo rb F2 F3 F7 t.cur.length t.touch.length t.stack.length cs i wx) (fun i _ => t.cur.length - (intOf i).toNat)
        case atStart => exact HMU0.out
        case round =>
          clear HMU0
          obtain ⟨q, rfl, hq, hmu⟩ := hrel
          have HMU := Lib.hid hmu
          have r1 := (hmu.hb.cell 1).trans H1C.out
          have r2 := (hmu.hb.cell 2).trans H2C.out
          have rl := hmu.hb.lt
          by_cases h1 : (q : Int) < (t.cur.length : Int)
          · by_cases h2 : (q : Int) < (t.touch.length : Int)
            · obtain ⟨gc, rfl, hgc, cc, hbc, hsc⟩ := hmu.cu (by omega)
              obtain ⟨gt, rfl, hgt, ct, hbt, hstt⟩ := hmu.tq (by omega)
              have hn1 : ¬ rb = gc := hmu.hb.ne_ hbc (by decide)
              have hn2 : ¬ rb = gt := hmu.hb.ne_ hbt (by decide)
              have hn3 : ¬ gc = gt := hbc.ne_ hbt (by decide)
              have hn4 : ¬ gt = gc := fun e => hn3 e.symm
              have HN1 := Lib.hid ((HMU.out.set hgc hn1 (q * 2) (.int .i64 9999)).set hgt hn2 q (.int .i64 3))
              have s0 := hbc.cell (q * 2)
              have s1 := hbc.frozen (q * 2)
              have s2 := hbc.lt
              have s3 := hbt.cell q
              have s4 := hbt.frozen q
              have s5 := hbt.lt
              rw [Array.getElem?_eq_getElem (by omega)] at s0 s3
              clear hmu hbc hbt HMU
              go_wp2_with fail
              go_roundw
              case rel => exact ⟨q + 1, by go_num, by omega, HN1.out⟩
              case measure => simp [intOf]; omega
            · clear hmu
              go_wp2_with fail
              go_meet
              exact HMU.out
          · clear hmu
            go_wp2_with fail
            go_meet
            exact HMU.out
      case rest =>
        clear HMU HMU0
        have HMU0 : Hid (Mu wo rb F2 F3 F7 t.cur.length t.touch.length t.stack.length cs (.int .i64 0) wc) := Lib.hid ⟨0, rfl, by omega, hcut⟩
        clear hcut
        go_wp2_with fail
        go_loopw [12] (fun i wx => Mu wo rb F2 F3 F7 t.cur.length t.touch.length t.stack.length cs i wx) (fun i _ => t.stack.length - (intOf i).toNat)
        case atStart => exact HMU0.out
        case round =>
          clear HMU0
          obtain ⟨q, rfl, hq, hmu⟩ := hrel
          have HMU := Lib.hid hmu
          have r6 := (hmu.hb.cell 6).trans H6C.out
          have rl := hmu.hb.lt
          by_cases h1 : (q : Int) < (t.stack.length : Int)
          · obtain ⟨gs, rfl, hgs, cc, hbc, hsc⟩ := hmu.sk (by omega)
            have hn1 : ¬ rb = gs := hmu.hb.ne_ hbc (by decide)
            have HN1 := Lib.hid (HMU.out.set hgs hn1 q (.int .i64 7))
            have s0 := hbc.cell q
            have s1 := hbc.frozen q
            have s2 := hbc.lt
            rw [Array.getElem?_eq_getElem (by omega)] at s0
            clear hmu hbc HMU
            go_wp2_with fail
            go_roundw
            case rel => exact ⟨q + 1, by go_num, by omega, HN1.out⟩
            case measure => simp [intOf]; omega
          · have HM9 := Lib.hid (HM0.out.grow hmu.gr)
            have HF9 := Lib.hid (HF0.out.trans (hmu.gr.mono fun _ _ x => x.elim))
            have HC := Lib.hid (step_any wr mb O L t HM9.out (by omega))
            clear hmu HMU HM0 HF0 H1C H2C H6C
            go_wp2_with fail
            refine HC.out.mono ?_
            clear r6 rl
            rintro e w9 ⟨rfl, hm9, hf9⟩
            have how := OwI.step (by omega) HO0.out HF9.out hm9 hf9
            have hsb := step_bound (s := t)
            have hit : Mr.iter (j + 1) S0 = (Mc.step t).1 := by rw [Mr.iter_succ, ← HJ.out]
            rcases hs : Mc.step t with ⟨t', b⟩
            rw [hs] at how hsb hit
            simp only at how hsb hit
            have her' := step_er HER.out hs
            have hst2 := HST.out
            rw [show 3000 - k = (3000 - (k + 1)) + 1 by omega] at hst2
            clear HC hm9 hf9 HM9 HF9 HO0 HER HST HJ
            cases b with
            | true =>
              rw [steps_true hs] at hst2
              have HRE : Hid (OwR Y3 lo a7 mb T S0 (.int .i64 ((k : Int) + 1)) w9) := Lib.hid ⟨k + 1, t', by simp, by omega, how, hst2, by omega, her', j + 1, hit.symm⟩
              clear how hst2 her' hit hs hsb
              go_wp2_with fail
              go_roundw
              case rel => exact HRE.out
              case measure => simp [intOf]; omega
            | false =>
              rw [steps_false hs] at hst2
              injection hst2 with hst2 _
              have hst3 := hst2.symm
              clear hst2
              subst hst3
              have hsmt := HSM.out (j + 1)
              rw [hit] at hsmt
              have HSMT := Lib.hid hsmt
              obtain ⟨O2, L2, hm2, hO2, hf2⟩ := how
              have HM2 := Lib.hid hm2
              have HF2 := Lib.hid hf2
              have hnS : ∀ q, q < lo → ¬ (lo ≤ q ∧ q < a7) := fun q hq hh => by omega
              have hnT : ∀ q, a7 ≤ q → ¬ (lo ≤ q ∧ q < a7) := fun q hq hh => by omega
              have hZ9 := hf2.blk HZB3.out (hnS _ hzl)
              have hW9 := hf2.blk HWB3.out (hnS _ hwl)
              have hD9 := hf2.blk HDB.out (hnT _ hya)
              have hza9 : ZnAt w9 w9.heap.size z E1 E2 E3 E4 := (HZA3.out.keep fun q hq => hf2.cell (by omega) (hnS _ hq)).more7 (by have := hf2.size; omega)
              have ok : ∀ {t0 : TypeId} {size n : Nat} {v : Value} {xs : List Value}, Y3.ownsRow a7 t0 size v n xs → w9.ownsRow a7 t0 size v n xs := fun ho => owns_keep ho fun g hg => by
                obtain ⟨x1, x2, _⟩ := owns_block ho hg
                exact hf2.block g x2 (hnT _ x1)
              have hda9 : ZnAt w9 w9.heap.size z D1 D2 D3 D4 := ⟨Reads.of_own (ok HD1.out), Reads.of_own (ok HD2.out), Reads.of_own (ok HD3.out), Reads.of_own (ok HD4.out)⟩
              have hsz := rsameZone_any z z w9.heap.size E1 E2 E3 E4 D1 D2 D3 D4 g1 g2 g3 g4 d1 d2 d3 d4 w9 (Nat.le_refl _) hza9 hda9 HZO.out HZO.out
              rw [decide_eq_true ⟨rfl, rfl, rfl, rfl⟩] at hsz
              have HSZ := Lib.hid hsz
              have p0 := hZ9.cell 0
              have p1 := hZ9.cell 1
              have p2 := hZ9.cell 2
              have p3 := hZ9.cell 3
              have z0 := hD9.cell 0
              have z1 := hD9.cell 1
              have z2 := hD9.cell 2
              have z3 := hD9.cell 3
              simp only [List.getElem?_toArray, List.getElem?_cons_zero, List.getElem?_cons_succ] at p0 p1 p2 p3 z0 z1 z2 z3
              have pl := hZ9.lt
              have zl := hD9.lt
              have HW9 := Lib.hid hW9
              have HB9 := Lib.hid (HB6.out.trans ((hf2.below (B := lo) (by omega) hnS).mono hwlo))
              have HY9 := Lib.hid (HWY.out.trans (hf2.below (B := lo) (by omega) hnS))
              clear hsmt hm2 hO2 hf2 hZ9 hW9 hD9 hza9 hda9 hsz HSM HZA3 HD1 HD2 HD3 HD4 HZB3 HWB3 HDB HB6 HWY her' hit hs hsb hnS hnT
              go_wp2_with fail
              refine HSZ.out.mono ?_
              rintro e wx ⟨rfl, hgx⟩
              have HWX := Lib.hid (hgx.blk HW9.out (fun x => x))
              have HMX := Lib.hid (HM2.out.grow hgx)
              have HBX := Lib.hid (HB9.out.trans ((Grow.below hgx (Nat.le_refl _)).mono HB9.out.size))
              have HYX := Lib.hid (HY9.out.trans ((Grow.below hgx (Nat.le_refl _)).mono (by have := HY9.out.size; have := HL2.out; omega)))
              clear HSZ hgx HW9 HM2 HB9 HY9 HF2 p0 p1 p2 p3 z0 z1 z2 z3 pl zl
              go_upto_region 25 with fail
              have hS : Ten wb #[.slice K1 T.org.length k1, .slice K2 T.cur.length k2, .slice K3 T.touch.length k3, .slice K4 T.ends.length k4, .slice K5 T.cvt.length k5, .slice K6 32 k6, .slice K7 T.stack.length k7, .int .i64 T.steps, .int .i64 T.peak, .int .i64 T.err] wx.drew := HWX.out.cell
              go_wp2_with fail
              refine wp_region_seqT (fun i => !([6, 8] : List Nat).contains i) (fun i => ([7] : List Nat).contains i) (fun i => ([6] : List Nat).contains i) [0, 1, 2, 3, 4, 5, 7, 6, 8, 9, 10] (Ten wb #[.slice K1 T.org.length k1, .slice K2 T.cur.length k2, .slice K3 T.touch.length k3, .slice K4 T.ends.length k4, .slice K5 T.cvt.length k5, .slice K6 32 k6, .slice K7 T.stack.length k7, .int .i64 T.steps, .int .i64 T.peak, .int .i64 T.err]) (by as_aux_lemma => kernel_rfl) (by as_aux_lemma => kernel_rfl) (by as_aux_lemma => kernel_rfl) (by as_aux_lemma => kernel_rfl) ?_
              refine wpSeq_pure (v := _) rfl rfl rfl (by kernel_rfl) (fun _ _ _ h => h) (fun wq => by first | (go_simp; done) | (go_simp; rfl)) ?_
              refine wpSeq_pure (v := _) rfl rfl rfl (by kernel_rfl) (fun _ _ _ h => h) (fun wq => by first | (go_simp; done) | (go_simp; rfl)) ?_
              refine wpSeq_pure (v := _) rfl rfl rfl (by kernel_rfl) (fun _ _ _ h => h) (fun wq => by first | (go_simp; done) | (go_simp; rfl)) ?_
              refine wpSeq_pure (v := _) rfl rfl rfl (by kernel_rfl) (fun _ _ _ h => h) (fun wq => by first | (go_simp; done) | (go_simp; rfl)) ?_
              refine wpSeq_pure (v := _) rfl rfl rfl (by kernel_rfl) (fun _ _ _ h => h) (fun wq => by first | (go_simp; done) | (go_simp; rfl)) ?_
              refine wpSeq_pure (v := _) rfl rfl rfl (by kernel_rfl) (fun _ _ _ h => h) (fun wq => by first | (go_simp; done) | (go_simp; rfl)) ?_
              go_simp
              refine wpSeq_load (v := _) rfl rfl (by kernel_rfl) (fun _ _ _ h => h) hS rfl (fun wq hq => by unfold Ten at hq; first | (go_simp; done) | (go_simp; rfl)) ?_
              have HC := Lib.hid (ran_any wx.drew mb O2 L2 T (HMX.out.grow (Fr.refl _ _).drew))
              refine wpSeq_heavy rfl rfl (fun K hK => ?_); go_simp
              refine HC.out.mono ?_
              rintro e wz ⟨og, cu, tq, en, cv, st, sk, rfl, hra, hbl⟩
              obtain ⟨M1, m1, rfl, _⟩ := owns_form hra.og
              obtain ⟨M2, m2, rfl, _⟩ := owns_form hra.cu
              obtain ⟨M3, m3, rfl, _⟩ := owns_form hra.to
              obtain ⟨M4, m4, rfl, _⟩ := owns_form hra.en
              obtain ⟨M5, m5, rfl, _⟩ := owns_form hra.cv
              obtain ⟨M6, m6, rfl, _⟩ := owns_form hra.st
              obtain ⟨M7, m7, rfl, _⟩ := owns_form hra.sk
              have hgz : Grow wx.drew wz := Fr.of_below hbl (fun k hk _ => hk)
              have hWZ := hgz.blk HWX.out (fun x => x)
              have HSAME := Lib.hid (rsame_ran wz wz.heap.size (Nat.le_refl _) T T ⟨rfl, rfl, rfl, rfl, rfl, rfl, rfl, rfl, rfl⟩ HSMT.out T.err M1 M2 M3 M4 M5 M6 M7 K1 K2 K3 K4 K5 K6 K7 m1 m2 m3 m4 m5 m6 m7 k1 k2 k3 k4 k5 k6 k7 hra (Nat.le_refl _) (fun q hq => rfl) HWR.out (by have := HYX.out.size; have := hbl.size; have h : wx.drew.heap.size = wx.heap.size := rfl; omega) (fun q hq => (hbl.cell (p := q) (by have := HYX.out.size; have h : wx.drew.heap.size = wx.heap.size := rfl; omega)).trans (HYX.out.cell (by have := HL2.out; omega))))
              have HBZ := Lib.hid (HBX.out.drew.trans (hbl.mono HBX.out.size))
              have hS2 : Ten wb #[.slice K1 T.org.length k1, .slice K2 T.cur.length k2, .slice K3 T.touch.length k3, .slice K4 T.ends.length k4, .slice K5 T.cvt.length k5, .slice K6 32 k6, .slice K7 T.stack.length k7, .int .i64 T.steps, .int .i64 T.peak, .int .i64 T.err] wz := hWZ.cell
              clear HC hra hbl hgz hWZ
              dsimp only
              go_simp
              refine hK _ _ (fun _ => hS2) ?_; clear hK K
              refine wpSeq_heavy rfl rfl (fun K hK => ?_); go_simp
              refine HSAME.out.mono ?_
              rintro e wq ⟨rfl, hgq⟩
              have HE := Lib.hid (HBZ.out.trans ((Grow.below hgq (Nat.le_refl _)).mono HBZ.out.size))
              clear HSAME hgq
              dsimp only
              refine hK _ _ (fun h => by cases h) ?_; clear hK K
              refine wpSeq_pure (v := _) rfl rfl rfl (by kernel_rfl) (fun _ _ _ h => h) (fun wq => by first | (go_simp; done) | (go_simp; rfl)) ?_
              refine wpSeq_pure (v := _) rfl rfl rfl (by kernel_rfl) (fun _ _ _ h => h) (fun wq => by first | (go_simp; done) | (go_simp; rfl)) ?_
              refine wpSeq_end ?_
              go_wp2_with fail
              go_ret
              exact ⟨rfl, HE.out⟩
    · exfalso
      have : k = 3000 := by omega
      subst this
      have h0 := HST.out
      rw [Nat.sub_self, Mc.steps] at h0
      simp at h0
end Go.Proofs.YthdmdgmchkhngaaGreat
