/- MachineNil: the zone cut, no machine, and the walk. -/
import Derived.Test.YthdmdgmchkhngaaLwC
import Derived.Test.YthdmdgmchkhngaaRzn
namespace Go.Proofs.Ythdmdgmchkhngaa
open Go.RowKit Mc

theorem nstep_any (w : World) : Calls Try.prog 14 #[.pointer none] w fun e w' => e = .returned (.bool false) ∧ w = w' := by
  go_enter Try.func14, Try.ntmps14
  go_wp2
  go_ret
  exact ⟨rfl, rfl⟩
theorem nran_any (w : World) : Calls Try.prog 17 #[.pointer none] w fun e w' => e = .returned (.agg #[.slice none 0 0, .slice none 0 0, .slice none 0 0, .slice none 0 0, .slice none 0 0, .slice none 0 0, .slice none 0 0, .int .i64 0, .int .i64 0, .int .i64 0]) ∧ Grow w w' := by
  go_enter Try.func17, Try.ntmps17
  go_wp2
  refine bodyPost_ret (v := .agg #[.slice none 0 0, .slice none 0 0, .slice none 0 0, .slice none 0 0, .slice none 0 0, .slice none 0 0, .slice none 0 0, .int .i64 0, .int .i64 0, .int .i64 0]) (by simp [results, Try.results17, go_sem]) rfl ⟨rfl, (Fr.refl _ _).alloc _⟩
theorem ran_steps (w : World) (a0 a1 a2 a3 a4 a5 a6 : Value) (s p e : Int) : (Instr.field 36 (.agg #[a0, a1, a2, a3, a4, a5, a6, .int .i64 s, .int .i64 p, .int .i64 e]) 4).run Try.prog w = .ok (.int .i64 s) w := by
  unfold Instr.field
  simp [Sem.run_bind, run_underlying Try.underlying36, part, asAgg, go_sem]
theorem min_if0 (x y : Int) : (if x < y then x else y) = min x y := by omega
theorem min_if02 (x y : Int) : (if y < x then y else x) = min x y := by omega
set_option maxHeartbeats 4000000 in
set_option maxRecDepth 100000 in
theorem fewZone_any (w : World) (no nu nt ne : Nat) (oA uA tA eA : Option Addr) (oc uc tc ec : Nat) (ho : no ≤ oc) (hu : nu ≤ uc) (ht : nt ≤ tc) (he : ne ≤ ec) :
    Calls Try.prog 13 #[.agg #[.slice oA no oc, .slice uA nu uc, .slice tA nt tc, .slice eA ne ec]] w fun e w' => e = .returned (.agg #[.slice oA (min no 22) oc, .slice uA (min nu 20) uc, .slice tA (min nt 22) tc, .slice eA (min ne 20) ec]) ∧ Grow w w' := by
  obtain ⟨X, hX⟩ : ∃ X, X = ((w.alloc (.cells #[.slice oA no oc, .slice uA nu uc, .slice tA nt tc, .slice eA ne ec] 33)).alloc (.cells #[.slice none 0 0, .slice none 0 0, .slice none 0 0, .slice none 0 0] 33)) := ⟨_, rfl⟩
  have hXG : Grow w X := by rw [hX]; exact ((Fr.refl _ w).alloc _).alloc _
  have hbz : Blk X w.heap.size 33 #[.slice oA no oc, .slice uA nu uc, .slice tA nt tc, .slice eA ne ec] := by rw [hX]; exact (Blk.new _ _ _).alloc _
  have hb1 : Blk X (w.heap.size + 1) 33 #[.slice none 0 0, .slice none 0 0, .slice none 0 0, .slice none 0 0] := by rw [hX]; exact Blk.new_at _ _ _ (by simp)
  have HX := Lib.hid hX
  have HXG := Lib.hid hXG
  have hmn := min_if0
  have hmn2 := min_if02
  obtain ⟨mo, hmo⟩ : ∃ m : Nat, m = min no 22 := ⟨_, rfl⟩
  obtain ⟨mu, hmu⟩ : ∃ m : Nat, m = min nu 20 := ⟨_, rfl⟩
  obtain ⟨mt, hmt⟩ : ∃ m : Nat, m = min nt 22 := ⟨_, rfl⟩
  obtain ⟨me, hme⟩ : ∃ m : Nat, m = min ne 20 := ⟨_, rfl⟩
  have ko : min 22 (no : Int) = (mo : Int) := by omega
  have ku : min 20 (nu : Int) = (mu : Int) := by omega
  have kt : min 22 (nt : Int) = (mt : Int) := by omega
  have ke : min 20 (ne : Int) = (me : Int) := by omega
  rw [← hmo, ← hmu, ← hmt, ← hme]
  have jo : mo ≤ oc := by omega
  have ju : mu ≤ uc := by omega
  have jt : mt ≤ tc := by omega
  have je : me ≤ ec := by omega
  have y0 := hbz.cell 0
  have y1 := hbz.cell 1
  have y2 := hbz.cell 2
  have y3 := hbz.cell 3
  have x0 := hb1.cell 0
  have x1 := hb1.cell 1
  have x2 := hb1.cell 2
  have x3 := hb1.cell 3
  simp only [List.getElem?_toArray, List.getElem?_cons_zero, List.getElem?_cons_succ] at x0 x1 x2 x3 y0 y1 y2 y3
  have xf := hb1.frozen
  have xl := hb1.lt
  have yl := hbz.lt
  clear hX hXG hbz hb1 hmo hmu hmt hme ho hu ht he
  go_enter Try.func13, Try.ntmps13
  go_upto_region 1 with fail
  rw [← HX.out]
  go_still_tail 29, (by kernel_rfl)
  repeat still_step
  change wpList _ _ _ _ _ X.drew
  go_wp2
  refine bodyPost_ret (v := .agg #[.slice oA mo oc, .slice uA mu uc, .slice tA mt tc, .slice eA me ec]) (by simp [results, Try.results13, go_sem, x0, x1, x2, x3]) rfl ⟨rfl, ?_⟩
  have hg1 : w.heap.size ≤ w.heap.size + 1 := by omega
  first
  | exact ((((HXG.out.setCell (.inr hg1) _).setCell (.inr hg1) _).setCell (.inr hg1) _).setCell (.inr hg1) _).drew
  | exact (((((HXG.out).drew.setCell (.inr hg1) _).setCell (.inr hg1) _).setCell (.inr hg1) _).setCell (.inr hg1) _)
theorem nilRun_is (z : Zn) : (Mc.run 100 (begin_ ⟨[[(37, 0)]], [(37, 0)], [], 0⟩ z)).err = 54 ∧ (Mc.run 100 (begin_ ⟨[[(37, 0)]], [(37, 0)], [], 0⟩ z)).steps = 20 := ⟨by kernel_rfl, by kernel_rfl⟩
theorem emptyRun_is (z : Zn) (n : Nat) : Mc.run n (begin_ ⟨[], [], [], 0⟩ z) = { begin_ ⟨[], [], [], 0⟩ z with frames := [], ended := true } := by
  have hn : next (begin_ ⟨[], [], [], 0⟩ z) = ({ begin_ ⟨[], [], [], 0⟩ z with frames := [], ended := true }, none) := rfl
  cases n with
  | zero => rfl
  | succ n =>
    unfold Mc.run
    rw [Mc.steps]
    have : Mc.step (begin_ ⟨[], [], [], 0⟩ z) = ({ begin_ ⟨[], [], [], 0⟩ z with frames := [], ended := true }, false) := by unfold Mc.step; rw [hn]
    rw [this]
/-- the zone cut -/
def fewZ (z : Zn) : Zn := ⟨z.org.take 22, z.cur.take 20, z.touch.take 22, z.ends.take 20⟩
theorem fewZ_ok (z : Zn) : ZnOk (fewZ z) := ⟨by simp [fewZ]; omega, by simp [fewZ]; omega, by simp [fewZ]; omega, by simp [fewZ]; omega⟩
theorem Reads.take {w : World} {B size n m : Nat} {A : Option Addr} {xs : List Value} (h : Reads w B size A n xs) (hm : m ≤ n) : Reads w B size A m (xs.take (m * size)) := by
  refine ⟨by rw [List.length_take, h.1]; exact Nat.min_eq_left (Nat.mul_le_mul_right _ hm), fun hp => ?_⟩
  obtain ⟨b, off, e, hb, hc⟩ := h.2 (by omega)
  refine ⟨b, off, e, hb, fun j u hu => hc j u ?_⟩
  rw [List.getElem?_take] at hu
  split at hu
  · exact hu
  · cases hu
theorem pts_take (l : List (Int × Int)) (m : Nat) : pts (l.take m) = (pts l).take (m * 2) := by
  induction l generalizing m with
  | nil => simp [pts]
  | cons a r ih =>
    cases m with
    | zero => simp [pts]
    | succ m =>
      rw [List.take_succ_cons, Nat.add_mul]
      show _ :: _ :: pts (r.take m) = _
      rw [ih]
      rfl
theorem ZnAt.more {w : World} {B B' : Nat} {z : Zn} {oA uA tA eA : Option Addr} (h : ZnAt w B z oA uA tA eA) (hB : B ≤ B') : ZnAt w B' z oA uA tA eA := ⟨h.org.more hB, h.cur.more hB, h.touch.more hB, h.ends.more hB⟩
theorem ZnAt.alloc {w : World} {B : Nat} {z : Zn} {oA uA tA eA : Option Addr} (h : ZnAt w B z oA uA tA eA) (hB : B ≤ w.heap.size) (o : Obj) : ZnAt (w.alloc o) B z oA uA tA eA := ⟨h.org.alloc hB o, h.cur.alloc hB o, h.touch.alloc hB o, h.ends.alloc hB o⟩
theorem take_self {α : Type} (l : List α) (n : Nat) : l.take n = l.take (l.take n).length := by rw [List.length_take]; exact List.take_eq_take_min
theorem fewZ_at {w : World} {B : Nat} {z : Zn} {oA uA tA eA : Option Addr} (h : ZnAt w B z oA uA tA eA) : ZnAt w B (fewZ z) oA uA tA eA := by
  have a := h.org.take (m := (z.org.take 22).length) (by rw [List.length_take]; omega)
  have b := h.cur.take (m := (z.cur.take 20).length) (by rw [List.length_take]; omega)
  have c := h.touch.take (m := (z.touch.take 22).length) (by rw [List.length_take]; omega)
  have d := h.ends.take (m := (z.ends.take 20).length) (by rw [List.length_take]; omega)
  rw [← pts_take, ← take_self] at a b
  have e1 : (ints z.touch).take ((z.touch.take 22).length * 1) = ints (z.touch.take 22) := by rw [Nat.mul_one]; unfold ints; rw [← List.map_take, ← take_self]
  have e2 : (ints z.ends).take ((z.ends.take 20).length * 1) = ints (z.ends.take 20) := by rw [Nat.mul_one]; unfold ints; rw [← List.map_take, ← take_self]
  rw [e1] at c
  rw [e2] at d
  exact ⟨a, b, c, d⟩
/-- the program that calls itself -/
theorem PgAt.loop_ {W : World} {ga gf gm : Nat} (ha : Blk W ga 39 #[.int .i64 37, .int .i64 0]) (hf : Blk W gf 40 #[.slice (some ⟨ga, 0, none⟩) 1 1]) (hm : Blk W gm 39 #[.int .i64 37, .int .i64 0]) : PgAt W W.heap.size ⟨[[(37, 0)]], [(37, 0)], [], 0⟩ (some ⟨gf, 0, none⟩) (some ⟨gm, 0, none⟩) none := by
  refine ⟨⟨[.slice (some ⟨ga, 0, none⟩) 1 1], Reads.blk hf 1 1 rfl, fun i c hc => ?_⟩, Reads.blk (cs := [.int .i64 37, .int .i64 0]) hm 2 1 rfl, Reads.none_⟩
  cases i with
  | zero =>
    simp only [List.getElem?_cons_zero, Option.some.injEq] at hc
    subst hc
    exact ⟨_, _, rfl, Reads.blk (cs := [.int .i64 37, .int .i64 0]) ha 2 1 rfl⟩
  | succ i => simp at hc
theorem PgAt.empty_ {W : World} {B : Nat} : PgAt W B ⟨[], [], [], 0⟩ none none none := ⟨⟨[], Reads.none_, fun i c hc => by simp at hc⟩, Reads.none_, Reads.none_⟩
set_option maxHeartbeats 4000000 in
set_option maxRecDepth 100000 in
theorem machineNil_walk (z : Zn) (oA uA tA eA : Option Addr) (oc uc tc ec : Nat) (ho : z.org.length ≤ oc) (hu : z.cur.length ≤ uc) (ht : z.touch.length ≤ tc) (he : z.ends.length ≤ ec) (n : Int) (w : World) (hza : ZnAt w w.heap.size z oA uA tA eA) :
    Calls Try.prog 6 #[.agg #[.slice oA z.org.length oc, .slice uA z.cur.length uc, .slice tA z.touch.length tc, .slice eA z.ends.length ec], .int .i64 n] w fun e w' => e = .returned (.bool true) ∧ Below w.heap.size w w' := by
  have hfew := fewZone_any (oA := oA) (uA := uA) (tA := tA) (eA := eA) (ho := ho) (hu := hu) (ht := ht) (he := he)
  have HFEW := Lib.hid hfew
  have hfl : min z.org.length 22 = (fewZ z).org.length ∧ min z.cur.length 20 = (fewZ z).cur.length ∧ min z.touch.length 22 = (fewZ z).touch.length ∧ min z.ends.length 20 = (fewZ z).ends.length := by simp only [fewZ, List.length_take]; omega
  have HFL := Lib.hid hfl
  have HZA := Lib.hid (fewZ_at hza)
  have HZO := Lib.hid (fewZ_ok z)
  generalize fewZ z = y at *
  generalize z.org.length = lo at *
  generalize z.cur.length = lu at *
  generalize z.touch.length = lt at *
  generalize z.ends.length = le at *
  clear hfew hfl hza ho hu ht he
  go_enter Try.func6, Try.ntmps6
  go_wp2_with fail
  refine (awake_any _).mono ?_
  rintro e' w1 ⟨rfl, hbl⟩
  have hbx := (Blk.new w 33 #[.slice oA lo oc, .slice uA lu uc, .slice tA lt tc, .slice eA le ec]).below hbl (by simp)
  have HG1 := Lib.hid (((Below.refl _ _).alloc (Nat.le_refl _) (.cells #[.slice oA lo oc, .slice uA lu uc, .slice tA lt tc, .slice eA le ec] 33)).trans (hbl.mono (show w.heap.size ≤ _ by simp)))
  have HZ1 := Lib.hid (HZA.out.keep fun q hq => HG1.out.cell hq)
  have y0 := hbx.cell 0
  have y1 := hbx.cell 1
  have y2 := hbx.cell 2
  have y3 := hbx.cell 3
  simp only [List.getElem?_toArray, List.getElem?_cons_zero, List.getElem?_cons_succ] at y0 y1 y2 y3
  have yl := hbx.lt
  clear hbl hbx HZA
  go_wp2_with fail
  refine (lrest_any n 201 w1 (by decide) (by decide)).mono ?_
  rintro e' w1' ⟨rfl, rfl⟩
  have hm1 : 0 ≤ n % 201 ∧ n % 201 ≤ 200 := by omega
  generalize n % 201 = m at *
  go_wp2_with fail
  refine (HFEW.out w1).mono ?_
  rintro e' w2 ⟨rfl, hg⟩
  obtain ⟨l1, l2, l3, l4⟩ := HFL.out
  rw [l1, l2, l3, l4]
  have HG2 := Lib.hid (HG1.out.trans (Grow.below hg HG1.out.size))
  have HZ2 := Lib.hid (HZ1.out.keep (W' := w2) fun q hq => hg.cell (by have := HG1.out.size; omega) (fun x => x))
  clear hg HFEW HFL l1 l2 l3 l4 y0 y1 y2 y3 yl HG1 HZ1
  go_upto_region 5 with fail
  have HY := Lib.hid (Blk.new w2 33 #[.slice oA y.org.length oc, .slice uA y.cur.length uc, .slice tA y.touch.length tc, .slice eA y.ends.length ec])
  have HG3 := Lib.hid (HG2.out.alloc HG2.out.size (.cells #[.slice oA y.org.length oc, .slice uA y.cur.length uc, .slice tA y.touch.length tc, .slice eA y.ends.length ec] 33))
  have HZ3 := Lib.hid (HZ2.out.alloc (by exact HG2.out.size) (.cells #[.slice oA y.org.length oc, .slice uA y.cur.length uc, .slice tA y.touch.length tc, .slice eA y.ends.length ec] 33))
  have hws := HG2.out.size
  have hyb : w2.heap.size < (w2.alloc (.cells #[.slice oA y.org.length oc, .slice uA y.cur.length uc, .slice tA y.touch.length tc, .slice eA y.ends.length ec] 33)).heap.size := by simp
  clear HG2 HZ2
  generalize w2.alloc (.cells #[.slice oA y.org.length oc, .slice uA y.cur.length uc, .slice tA y.touch.length tc, .slice eA y.ends.length ec] 33) = X at *
  generalize w2.heap.size = yb at *
  have y0 := HY.out.cell 0
  have y1 := HY.out.cell 1
  have y2 := HY.out.cell 2
  have y3 := HY.out.cell 3
  simp only [List.getElem?_toArray, List.getElem?_cons_zero, List.getElem?_cons_succ] at y0 y1 y2 y3
  go_wp2_with fail
  refine (nstep_any X).mono ?_
  rintro e' w3 ⟨rfl, rfl⟩
  go_wp2_with fail
  refine (run_any X ⟨[], [], [], 0⟩ y ⟨by simp, by simp, by simp, by simp⟩ HZO.out none none none oA tA eA uA 0 0 0 oc tc ec uc PgAt.empty_ (HZ3.out.more (by have := HG3.out.size; omega)) m (by omega)).mono ?_
  rintro e w3 ⟨og, cu, to, en, cv, st, sk, rfl, hra, hbl⟩
  rw [emptyRun_is] at hra ⊢
  have hS : ∃ S : St, S = { begin_ ⟨[], [], [], 0⟩ y with frames := [], ended := true } ∧ S.err = 0 ∧ S.steps = 0 := ⟨_, rfl, rfl, rfl⟩
  obtain ⟨S, hS, hS1, hS2⟩ := hS
  rw [← hS] at hra ⊢
  have hSz : (⟨S.org, S.cur, S.touch, S.ends⟩ : Zn) = znOf y := by rw [hS]; rfl
  have hSk : ZnOk ⟨S.org, S.cur, S.touch, S.ends⟩ := by rw [hSz]; exact ⟨by simp [znOf]; exact HZO.out.cur, by simp [znOf]; exact HZO.out.cur, by simp [znOf]; exact HZO.out.cur, HZO.out.ends⟩
  rw [hS1, hS2] at *
  have HSZ := Lib.hid hSz
  have HSK := Lib.hid hSk
  clear hS hS1 hS2 hSz hSk
  obtain ⟨A1, c1, rfl, _⟩ := owns_form hra.og
  obtain ⟨A2, c2, rfl, _⟩ := owns_form hra.cu
  obtain ⟨A3, c3, rfl, _⟩ := owns_form hra.to
  obtain ⟨A4, c4, rfl, _⟩ := owns_form hra.en
  obtain ⟨A5, c5, rfl, _⟩ := owns_form hra.cv
  obtain ⟨A6, c6, rfl, _⟩ := owns_form hra.st
  obtain ⟨A7, c7, rfl, _⟩ := owns_form hra.sk
  have hxw := HG3.out.size
  have HG4 := Lib.hid (HG3.out.trans (hbl.mono hxw))
  have HY4 := Lib.hid (HY.out.below hbl HY.out.lt)
  have HZ4 := Lib.hid (HZ3.out.keep fun q hq => hbl.cell (by omega))
  have HRA := Lib.hid (hra.mono hxw)
  have hxs := hbl.size
  clear hbl hra HG3 HY HZ3 y0 y1 y2 y3
  go_upto_region 7 with fail
  have HG5 := Lib.hid (HG4.out.alloc HG4.out.size (.cells #[.slice A1 S.org.length c1, .slice A2 S.cur.length c2, .slice A3 S.touch.length c3, .slice A4 S.ends.length c4, .slice A5 S.cvt.length c5, .slice A6 32 c6, .slice A7 S.stack.length c7, .int .i64 0, .int .i64 S.peak, .int .i64 0] 36))
  have HY5 := Lib.hid (HY4.out.alloc (.cells #[.slice A1 S.org.length c1, .slice A2 S.cur.length c2, .slice A3 S.touch.length c3, .slice A4 S.ends.length c4, .slice A5 S.cvt.length c5, .slice A6 32 c6, .slice A7 S.stack.length c7, .int .i64 0, .int .i64 S.peak, .int .i64 0] 36))
  have HZ5 := Lib.hid (HZ4.out.alloc HG4.out.size (.cells #[.slice A1 S.org.length c1, .slice A2 S.cur.length c2, .slice A3 S.touch.length c3, .slice A4 S.ends.length c4, .slice A5 S.cvt.length c5, .slice A6 32 c6, .slice A7 S.stack.length c7, .int .i64 0, .int .i64 S.peak, .int .i64 0] 36))
  have HRA5 := Lib.hid (HRA.out.grow ((Fr.refl _ _).alloc (.cells #[.slice A1 S.org.length c1, .slice A2 S.cur.length c2, .slice A3 S.touch.length c3, .slice A4 S.ends.length c4, .slice A5 S.cvt.length c5, .slice A6 32 c6, .slice A7 S.stack.length c7, .int .i64 0, .int .i64 S.peak, .int .i64 0] 36)))
  
  have HRR := Lib.hid (Blk.new w3 36 #[.slice A1 S.org.length c1, .slice A2 S.cur.length c2, .slice A3 S.touch.length c3, .slice A4 S.ends.length c4, .slice A5 S.cvt.length c5, .slice A6 32 c6, .slice A7 S.stack.length c7, .int .i64 0, .int .i64 S.peak, .int .i64 0])
  clear HG4 HY4 HZ4 HRA hxs hyb hxw
  generalize w3.alloc (.cells #[.slice A1 S.org.length c1, .slice A2 S.cur.length c2, .slice A3 S.touch.length c3, .slice A4 S.ends.length c4, .slice A5 S.cvt.length c5, .slice A6 32 c6, .slice A7 S.stack.length c7, .int .i64 0, .int .i64 S.peak, .int .i64 0] 36) = X5 at *
  generalize w3.heap.size = rb at *
  have y0 := HY5.out.cell 0
  have y1 := HY5.out.cell 1
  have y2 := HY5.out.cell 2
  have y3 := HY5.out.cell 3
  simp only [List.getElem?_toArray, List.getElem?_cons_zero, List.getElem?_cons_succ] at y0 y1 y2 y3
  have yl := HY5.out.lt
  obtain ⟨yl1, yl2, yl3, -⟩ := lts yl
  go_wp2_with fail
  have hx5 := HG5.out.size
  have HG8 := Lib.hid (((HG5.out.alloc hx5 (.cells #[.int .i64 37, .int .i64 0] 39)).alloc (by simp; omega) (.cells #[.slice (some ⟨X5.heap.size, 0, none⟩) 1 1] 40)).alloc (by simp; omega) (.cells #[.int .i64 37, .int .i64 0] 39))
  have HR8 : Hid (Grow X5 (((X5.alloc (.cells #[.int .i64 37, .int .i64 0] 39)).alloc (.cells #[.slice (some ⟨X5.heap.size, 0, none⟩) 1 1] 40)).alloc (.cells #[.int .i64 37, .int .i64 0] 39))) := Lib.hid ((((Fr.refl _ _).alloc _).alloc _).alloc _)
  have HA8 : Hid (Blk (((X5.alloc (.cells #[.int .i64 37, .int .i64 0] 39)).alloc (.cells #[.slice (some ⟨X5.heap.size, 0, none⟩) 1 1] 40)).alloc (.cells #[.int .i64 37, .int .i64 0] 39)) X5.heap.size 39 #[.int .i64 37, .int .i64 0]) := Lib.hid (((Blk.new _ _ _).alloc _).alloc _)
  have HF8 : Hid (Blk (((X5.alloc (.cells #[.int .i64 37, .int .i64 0] 39)).alloc (.cells #[.slice (some ⟨X5.heap.size, 0, none⟩) 1 1] 40)).alloc (.cells #[.int .i64 37, .int .i64 0] 39)) (X5.heap.size + 1) 40 #[.slice (some ⟨X5.heap.size, 0, none⟩) 1 1]) := Lib.hid ((Blk.new_at _ _ _ (by simp)).alloc _)
  have HM8 : Hid (Blk (((X5.alloc (.cells #[.int .i64 37, .int .i64 0] 39)).alloc (.cells #[.slice (some ⟨X5.heap.size, 0, none⟩) 1 1] 40)).alloc (.cells #[.int .i64 37, .int .i64 0] 39)) (X5.heap.size + 1 + 1) 39 #[.int .i64 37, .int .i64 0]) := Lib.hid (Blk.new_at _ _ _ (by simp))
  generalize (((X5.alloc (.cells #[.int .i64 37, .int .i64 0] 39)).alloc (.cells #[.slice (some ⟨X5.heap.size, 0, none⟩) 1 1] 40)).alloc (.cells #[.int .i64 37, .int .i64 0] 39)) = X8 at *
  have HZ8 := Lib.hid (HZ5.out.keep fun q hq => HR8.out.cell (by omega) (fun x => x))
  have HY8 := Lib.hid (HR8.out.blk HY5.out (fun x => x))
  have HB8 := Lib.hid (HR8.out.blk HRR.out (fun x => x))
  have HRA8 := Lib.hid (HRA5.out.grow HR8.out)
  refine (run_any X8 ⟨[[(37, 0)]], [(37, 0)], [], 0⟩ y ⟨by simp, by simp, by simp, by simp⟩ HZO.out (some ⟨X5.heap.size + 1, 0, none⟩) (some ⟨X5.heap.size + 1 + 1, 0, none⟩) none oA tA eA uA 1 1 0 oc tc ec uc (PgAt.loop_ HA8.out HF8.out HM8.out) (HZ8.out.more HG8.out.size) 100 (by omega)).mono ?_
  rintro e w4 ⟨og, cu, to, en, cv, st, sk, rfl, hra, hbl⟩
  have hT : ∃ T : St, T = Mc.run (100 : Int).toNat (begin_ ⟨[[(37, 0)]], [(37, 0)], [], 0⟩ y) ∧ T.err = 54 ∧ T.steps = 20 := ⟨_, rfl, (nilRun_is y).1, (nilRun_is y).2⟩
  obtain ⟨T, hT, hT1, hT2⟩ := hT
  rw [← hT] at hra ⊢
  rw [hT1, hT2]
  clear hT hT1 hT2
  obtain ⟨B1, d1, rfl, _⟩ := owns_form hra.og
  obtain ⟨B2, d2, rfl, _⟩ := owns_form hra.cu
  obtain ⟨B3, d3, rfl, _⟩ := owns_form hra.to
  obtain ⟨B4, d4, rfl, _⟩ := owns_form hra.en
  obtain ⟨B5, d5, rfl, _⟩ := owns_form hra.cv
  obtain ⟨B6, d6, rfl, _⟩ := owns_form hra.st
  obtain ⟨B7, d7, rfl, _⟩ := owns_form hra.sk
  have hx8 := HG8.out.size
  have HG9 := Lib.hid (HG8.out.trans (hbl.mono hx8))
  have HY9 := Lib.hid (HY8.out.below hbl HY8.out.lt)
  have HB9 := Lib.hid (HB8.out.below hbl HB8.out.lt)
  have HZ9 := Lib.hid (HZ8.out.keep fun q hq => hbl.cell (by omega))
  have HGB : Hid (Grow X8 w4) := Lib.hid (Fr.of_below hbl fun k hk _ => hk)
  have HRA9 := Lib.hid (HRA8.out.grow HGB.out)
  clear hbl hra HG8 HY8 HB8 HZ8 HRA8 HGB HR8 HA8 HF8 HM8 HG5 HY5 HZ5 HRA5 HRR y0 y1 y2 y3 yl yl1 yl2 yl3 hx5 hx8
  go_upto_region 8 with fail
  have HG10 := Lib.hid (HG9.out.alloc HG9.out.size (.cells #[.slice B1 T.org.length d1, .slice B2 T.cur.length d2, .slice B3 T.touch.length d3, .slice B4 T.ends.length d4, .slice B5 T.cvt.length d5, .slice B6 32 d6, .slice B7 T.stack.length d7, .int .i64 20, .int .i64 T.peak, .int .i64 54] 36))
  have HY10 := Lib.hid (HY9.out.alloc (.cells #[.slice B1 T.org.length d1, .slice B2 T.cur.length d2, .slice B3 T.touch.length d3, .slice B4 T.ends.length d4, .slice B5 T.cvt.length d5, .slice B6 32 d6, .slice B7 T.stack.length d7, .int .i64 20, .int .i64 T.peak, .int .i64 54] 36))
  have HB10 := Lib.hid (HB9.out.alloc (.cells #[.slice B1 T.org.length d1, .slice B2 T.cur.length d2, .slice B3 T.touch.length d3, .slice B4 T.ends.length d4, .slice B5 T.cvt.length d5, .slice B6 32 d6, .slice B7 T.stack.length d7, .int .i64 20, .int .i64 T.peak, .int .i64 54] 36))
  have HZ10 := Lib.hid (HZ9.out.alloc HG9.out.size (.cells #[.slice B1 T.org.length d1, .slice B2 T.cur.length d2, .slice B3 T.touch.length d3, .slice B4 T.ends.length d4, .slice B5 T.cvt.length d5, .slice B6 32 d6, .slice B7 T.stack.length d7, .int .i64 20, .int .i64 T.peak, .int .i64 54] 36))
  have HRA10 := Lib.hid (HRA9.out.grow ((Fr.refl _ _).alloc (.cells #[.slice B1 T.org.length d1, .slice B2 T.cur.length d2, .slice B3 T.touch.length d3, .slice B4 T.ends.length d4, .slice B5 T.cvt.length d5, .slice B6 32 d6, .slice B7 T.stack.length d7, .int .i64 20, .int .i64 T.peak, .int .i64 54] 36)))
  have HFF := Lib.hid (Blk.new w4 36 #[.slice B1 T.org.length d1, .slice B2 T.cur.length d2, .slice B3 T.touch.length d3, .slice B4 T.ends.length d4, .slice B5 T.cvt.length d5, .slice B6 32 d6, .slice B7 T.stack.length d7, .int .i64 20, .int .i64 T.peak, .int .i64 54])
  clear HG9 HY9 HB9 HZ9 HRA9
  generalize w4.alloc (.cells #[.slice B1 T.org.length d1, .slice B2 T.cur.length d2, .slice B3 T.touch.length d3, .slice B4 T.ends.length d4, .slice B5 T.cvt.length d5, .slice B6 32 d6, .slice B7 T.stack.length d7, .int .i64 20, .int .i64 T.peak, .int .i64 54] 36) = X9 at *
  generalize w4.heap.size = fb at *
  have y0 := HY10.out.cell 0
  have y1 := HY10.out.cell 1
  have y2 := HY10.out.cell 2
  have y3 := HY10.out.cell 3
  have r0 := HB10.out.cell 0
  have r1 := HB10.out.cell 1
  have r2 := HB10.out.cell 2
  have r3 := HB10.out.cell 3
  simp only [List.getElem?_toArray, List.getElem?_cons_zero, List.getElem?_cons_succ] at y0 y1 y2 y3 r0 r1 r2 r3
  have hx9 := HG10.out.size
  go_wp2_with fail
  have hS : (X9.drew.cell? ⟨rb, 0, none⟩ = some (.slice A1 S.org.length c1) ∧ X9.drew.cell? ⟨rb, 1, none⟩ = some (.slice A2 S.cur.length c2) ∧ X9.drew.cell? ⟨rb, 2, none⟩ = some (.slice A3 S.touch.length c3) ∧ X9.drew.cell? ⟨rb, 3, none⟩ = some (.slice A4 S.ends.length c4)) ∧ (X9.drew.cell? ⟨yb, 0, none⟩ = some (.slice oA y.org.length oc) ∧ X9.drew.cell? ⟨yb, 1, none⟩ = some (.slice uA y.cur.length uc) ∧ X9.drew.cell? ⟨yb, 2, none⟩ = some (.slice tA y.touch.length tc) ∧ X9.drew.cell? ⟨yb, 3, none⟩ = some (.slice eA y.ends.length ec)) := ⟨⟨r0, r1, r2, r3⟩, ⟨y0, y1, y2, y3⟩⟩
  refine wp_region_seqT (fun i => !([3, 4] : List Nat).contains i) (fun i => ([1, 2] : List Nat).contains i) (fun i => ([3] : List Nat).contains i) [0, 1, 2, 3, 4, 5] (fun w' => (w'.cell? ⟨rb, 0, none⟩ = some (.slice A1 S.org.length c1) ∧ w'.cell? ⟨rb, 1, none⟩ = some (.slice A2 S.cur.length c2) ∧ w'.cell? ⟨rb, 2, none⟩ = some (.slice A3 S.touch.length c3) ∧ w'.cell? ⟨rb, 3, none⟩ = some (.slice A4 S.ends.length c4)) ∧ (w'.cell? ⟨yb, 0, none⟩ = some (.slice oA y.org.length oc) ∧ w'.cell? ⟨yb, 1, none⟩ = some (.slice uA y.cur.length uc) ∧ w'.cell? ⟨yb, 2, none⟩ = some (.slice tA y.touch.length tc) ∧ w'.cell? ⟨yb, 3, none⟩ = some (.slice eA y.ends.length ec))) (by kernel_rfl) (by kernel_rfl) (by kernel_rfl) (by kernel_rfl) ?_
  refine wpSeq_pure (v := _) rfl rfl rfl (by kernel_rfl) (fun _ _ _ h => h) (fun wq => by first | (go_simp; done) | (go_simp; rfl)) ?_
  refine wpSeq_load (v := _) rfl rfl (by kernel_rfl) (fun _ _ _ h => h) hS rfl (fun wq hq => by (try have hq1 := hq.1); (try have hq2 := hq.2.1); (try have hq3 := hq.2.2.1); (try have hq4 := hq.2.2.2.1); (try have hq5 := hq.2.2.2.2.1); (try have hq6 := hq.2.2.2.2.2.1); (try have hq7 := hq.2.2.2.2.2.2); (try have hr2 := hq.2); (try have hr3 := hq.2.2); (try have hr4 := hq.2.2.2); (try have hr5 := hq.2.2.2.2); first | (go_simp; done) | (go_simp; rfl)) ?_
  refine wpSeq_load (v := _) rfl rfl (by kernel_rfl) (fun _ _ _ h => h) hS rfl (fun wq hq => by (try have hq1 := hq.1); (try have hq2 := hq.2.1); (try have hq3 := hq.2.2.1); (try have hq4 := hq.2.2.2.1); (try have hq5 := hq.2.2.2.2.1); (try have hq6 := hq.2.2.2.2.2.1); (try have hq7 := hq.2.2.2.2.2.2); (try have hr2 := hq.2); (try have hr3 := hq.2.2); (try have hr4 := hq.2.2.2); (try have hr5 := hq.2.2.2.2); first | (go_simp; done) | (go_simp; rfl)) ?_
  refine wpSeq_heavy rfl rfl (fun K hK => ?_); go_simp
  refine (rzone_any X9.drew w.heap.size y HZO.out oA uA tA eA oc uc tc ec (HZ10.out.keep (W' := X9.drew) fun _ _ => rfl) hx9).mono ?_
  rintro e w5 ⟨og, cu, to, en, rfl, ⟨o1, o2, o3, o4⟩, hg5⟩
  have hgX : Grow X9 w5 := ((Fr.refl _ X9).drew).trans hg5
  have k0 := (hgX.cell (p := ⟨rb, 0, none⟩) HB10.out.lt (fun x => x)).trans r0
  have k1 := (hgX.cell (p := ⟨rb, 1, none⟩) HB10.out.lt (fun x => x)).trans r1
  have k2 := (hgX.cell (p := ⟨rb, 2, none⟩) HB10.out.lt (fun x => x)).trans r2
  have k3 := (hgX.cell (p := ⟨rb, 3, none⟩) HB10.out.lt (fun x => x)).trans r3
  have l0 := (hgX.cell (p := ⟨yb, 0, none⟩) HY10.out.lt (fun x => x)).trans y0
  have l1 := (hgX.cell (p := ⟨yb, 1, none⟩) HY10.out.lt (fun x => x)).trans y1
  have l2 := (hgX.cell (p := ⟨yb, 2, none⟩) HY10.out.lt (fun x => x)).trans y2
  have l3 := (hgX.cell (p := ⟨yb, 3, none⟩) HY10.out.lt (fun x => x)).trans y3
  obtain ⟨E1, g1, rfl, _⟩ := owns_form o1
  obtain ⟨E2, g2, rfl, _⟩ := owns_form o2
  obtain ⟨E3, g3, rfl, _⟩ := owns_form o3
  obtain ⟨E4, g4, rfl, _⟩ := owns_form o4
  have hz2 : ZnAt w5 w5.heap.size (znOf y) E1 E2 E3 E4 := ⟨Reads.of_own o1, Reads.of_own o2, Reads.of_own o3, Reads.of_own o4⟩
  have hra := HRA10.out.grow hgX
  have hz1 : ZnAt w5 w5.heap.size ⟨S.org, S.cur, S.touch, S.ends⟩ A1 A2 A3 A4 := ⟨Reads.of_own hra.og, Reads.of_own hra.cu, Reads.of_own hra.to, Reads.of_own hra.en⟩
  have hok2 : ZnOk (znOf y) := by rw [← HSZ.out]; exact HSK.out
  have hsame := rsameZone_any ⟨S.org, S.cur, S.touch, S.ends⟩ (znOf y) w5.heap.size A1 A2 A3 A4 E1 E2 E3 E4 c1 c2 c3 c4 g1 g2 g3 g4 w5 (Nat.le_refl _) hz1 hz2 HSK.out hok2
  rw [decide_eq_true (by rw [← HSZ.out]; exact ⟨rfl, rfl, rfl, rfl⟩)] at hsame
  dsimp only
  refine hK _ _ (fun _ => ⟨⟨k0, k1, k2, k3⟩, ⟨l0, l1, l2, l3⟩⟩) ?_; clear hK K
  refine wpSeq_heavy rfl rfl (fun K hK => ?_); go_simp
  refine hsame.mono ?_
  rintro e w6 ⟨rfl, hg6⟩
  have hgY := hgX.trans hg6
  have HG11 := Lib.hid (HG10.out.trans (Grow.below hgY hx9))
  have HB11 := Lib.hid (hgY.blk HB10.out (fun x => x))
  have HF11 := Lib.hid (hgY.blk HFF.out (fun x => x))
  dsimp only
  refine hK _ _ (fun h => by cases h) ?_; clear hK K
  refine wpSeq_pure (v := _) rfl rfl rfl (by kernel_rfl) (fun _ _ _ h => h) (fun wq => by first | (go_simp; done) | (go_simp; rfl)) ?_
  refine wpSeq_end ?_
  clear hgY hg6 hsame hok2 hz1 hz2 hra o1 o2 o3 o4 hgX hg5 k0 k1 k2 k3 l0 l1 l2 l3 r0 r1 r2 r3 y0 y1 y2 y3 HG10 HB10 HFF HRA10 HY10 HZ10 HSZ HSK hS
  have r4 := HB11.out.cell 7
  have r5 := HB11.out.cell 8
  have r6 := HB11.out.cell 9
  have f4 := HF11.out.cell 7
  have f5 := HF11.out.cell 8
  have f6 := HF11.out.cell 9
  simp only [List.getElem?_toArray, List.getElem?_cons_zero, List.getElem?_cons_succ] at r4 r5 r6 f4 f5 f6
  have rl := HB11.out.lt
  have fl := HF11.out.lt
  go_wp2_with fail
  refine (nran_any w6).mono ?_
  rintro e w7 ⟨rfl, hg7⟩
  have k4 := (hg7.cell (p := ⟨rb, 7, none⟩) rl (fun x => x)).trans r4
  have k5 := (hg7.cell (p := ⟨rb, 8, none⟩) rl (fun x => x)).trans r5
  have k6 := (hg7.cell (p := ⟨rb, 9, none⟩) rl (fun x => x)).trans r6
  have l4 := (hg7.cell (p := ⟨fb, 7, none⟩) fl (fun x => x)).trans f4
  have l5 := (hg7.cell (p := ⟨fb, 8, none⟩) fl (fun x => x)).trans f5
  have l6 := (hg7.cell (p := ⟨fb, 9, none⟩) fl (fun x => x)).trans f6
  have kl : rb < w7.heap.size := Nat.lt_of_lt_of_le rl hg7.size
  have ll : fb < w7.heap.size := Nat.lt_of_lt_of_le fl hg7.size
  have HG12 := Lib.hid (HG11.out.trans (Grow.below hg7 HG11.out.size))
  clear r4 r5 r6 f4 f5 f6 rl fl hg7 HG11 HB11 HF11
  have hfs := ran_steps w7 (.slice none 0 0) (.slice none 0 0) (.slice none 0 0) (.slice none 0 0) (.slice none 0 0) (.slice none 0 0) (.slice none 0 0) 0 0 0
  go_wp2_with fail
  go_ret
  exact ⟨rfl, HG12.out⟩
end Go.Proofs.Ythdmdgmchkhngaa
