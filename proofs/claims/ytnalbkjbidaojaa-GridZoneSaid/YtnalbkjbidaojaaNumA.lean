/- fleuronref02: digits: digit, compare, plus, less, whole: their contracts. -/
import Derived.Test.YtnalbkjbidaojaaMemo
import Derived.Test.YtnalbkjbidaojaaNumLaw
import Derived.Test.YtnalbkjbidaojaaRows
import Derived.Deep.CutBlock
import Derived.Deep.DeepCutAuto
namespace Go.Proofs.Ytnalbkjbidaojaa
open Go.RowKit Nm

def dints (l : List Int) : List Value := l.map (Value.int .i64)
abbrev GrowW (w w' : World) : Prop := Fr (fun _ => False) w w'
theorem GrowW.below {w w' : World} {B : Nat} (h : GrowW w w') (hB : B ≤ w.heap.size) : Below B w w' := Fr.below h hB fun _ _ x => x
theorem reads_grow {w w' : World} {B size n : Nat} {A : Option Addr} {xs : List Value} (h : Reads w B size A n xs) (hB : B ≤ w.heap.size) (hg : GrowW w w') : Reads w' B size A n xs := h.keep fun q hq => hg.cell (by omega) (fun x => x)
theorem dints_at (l : List Int) (k : Nat) (h : k < l.length) : (dints l)[k]? = some (.int .i64 (l.getD k 0)) := by
  unfold dints
  rw [List.getElem?_map, List.getD_eq_getElem?_getD, List.getElem?_eq_getElem h]
  rfl
theorem dints_one (l : List Int) : ∀ u ∈ dints l, u.oneCell' = true := by
  intro u hu
  obtain ⟨x, _, rfl⟩ := List.mem_map.1 hu
  rfl
theorem digit_any (A : Option Addr) (c B : Nat) (d : List Int) (i : Nat) (w : World) (h : Reads w B 1 A d.length (dints d)) (hB : B ≤ w.heap.size) (hl : d.length ≤ 1000000) (hi : i ≤ 1000000) :
    Calls Try.prog 46 #[.slice A d.length c, .int .i64 i] w fun e w' => e = .returned (.int .i64 (d.getD i 0)) ∧ w = w' := by
  by_cases hlt : i < d.length
  · obtain ⟨b, off, rfl, hb, hc⟩ := h.2 (by omega)
    have c0 := hc i _ (dints_at d i hlt)
    have hlt2 : (i : Int) < (d.length : Int) := by omega
    have hbl : b < w.heap.size := by omega
    clear hc h
    generalize d.getD i 0 = x at *
    generalize d.length = n at *
    go_enter Try.func46, Try.ntmps46
    go_wp2
    go_ret
    exact ⟨rfl, rfl⟩
  · have hlt2 : ¬ (i : Int) < (d.length : Int) := by omega
    have e : d.getD i 0 = 0 := by rw [List.getD_eq_getElem?_getD, List.getElem?_eq_none (by omega)]; rfl
    rw [e]
    clear h e
    generalize d.length = n at *
    go_enter Try.func46, Try.ntmps46
    go_wp2
    go_ret
    exact ⟨rfl, rfl⟩
/-- what compare tells of two numbers -/
def CmpP (a b z : Int) : Prop := (z < 0 ↔ a < b) ∧ (z = 0 ↔ a = b)
theorem max_if2 (x y : Int) : (if x < y then y else x) = max x y := by omega
def CmpI (a b : List Int) (m : Nat) (i : Value) : Prop := ∃ k : Nat, k ≤ m ∧ i = .int .i64 ((k : Int) - 1) ∧ (val (a.take k) < val (b.take k) ↔ val a < val b) ∧ (val (a.take k) = val (b.take k) ↔ val a = val b)
set_option maxHeartbeats 1000000 in
set_option maxRecDepth 100000 in
theorem compare_any (A A2 : Option Addr) (c c2 B : Nat) (a b : List Int) (w : World) (h : Reads w B 1 A a.length (dints a)) (h2 : Reads w B 1 A2 b.length (dints b)) (hB : B ≤ w.heap.size) (ha : Dig a) (hb : Dig b) (hl : a.length ≤ 100000) (hl2 : b.length ≤ 100000) :
    Calls Try.prog 56 #[.slice A a.length c, .slice A2 b.length c2] w fun e w' => ∃ z, e = .returned (.int .i64 z) ∧ CmpP (val a) (val b) z ∧ w = w' := by
  have HD := Lib.hid (fun i hi => digit_any A c B a i w h hB (by omega) hi)
  have HD2 := Lib.hid (fun i hi => digit_any A2 c2 B b i w h2 hB (by omega) hi)
  obtain ⟨m, hm⟩ : ∃ m, m = max a.length b.length := ⟨_, rfl⟩
  have hmi : (if a.length < b.length then (b.length : Int) else (a.length : Int)) = (m : Int) := by split <;> omega
  have hm1 : a.length ≤ m ∧ b.length ≤ m ∧ m ≤ 100000 := by omega
  have HA := Lib.hid ha
  have HB := Lib.hid hb
  have h0 : CmpI a b m (.int .i64 ((m : Int) - 1)) := ⟨m, Nat.le_refl _, rfl, by rw [take_all a hm1.1, take_all b hm1.2.1], by rw [take_all a hm1.1, take_all b hm1.2.1]⟩
  have H0 := Lib.hid h0
  clear h h2 ha hb hm h0
  generalize hna : a.length = na at *
  generalize hnb : b.length = nb at *
  clear hna hnb
  go_enter Try.func56, Try.ntmps56
  go_wp2_with fail
  go_loopw [5] (fun i wx => CmpI a b m i ∧ wx = w) (fun i _ => (intOf i + 1).toNat)
  case atStart => exact ⟨H0.out, rfl⟩
  case round =>
    clear H0
    obtain ⟨⟨k, hk, rfl, e1, e2⟩, rfl⟩ := hrel
    cases k with
    | zero =>
      have hv : val a = val b := e2.1 rfl
      have HV := Lib.hid hv
      clear e1 e2 hv
      go_wp2_with fail
      go_ret
      exact ⟨0, rfl, ⟨⟨fun h => absurd h (by decide), fun h => absurd h (by have := HV.out; omega)⟩, ⟨fun _ => HV.out, fun _ => rfl⟩⟩, rfl⟩
    | succ q =>
      obtain ⟨x0, x1⟩ := HA.out.at q
      obtain ⟨y0, y1⟩ := HB.out.at q
      have ta := take_succ_val a q
      have tb := take_succ_val b q
      have l1 := fun h => cmp_take HA.out HB.out q h
      have l2 := fun h => cmp_take HB.out HA.out q h
      have L1 := Lib.hid l1
      have L2 := Lib.hid l2
      have E1 := Lib.hid e1
      have E2 := Lib.hid e2
      have TA := Lib.hid ta
      have TB := Lib.hid tb
      clear l1 l2 e1 e2 ta tb
      rw [show ((q + 1 : Nat) : Int) - 1 = (q : Int) by omega]
      have D1 := HD.out q (by omega)
      have D2 := HD2.out q (by omega)
      have HD1 := Lib.hid D1
      have HDD2 := Lib.hid D2
      clear D1 D2 HD HD2 HA HB
      generalize a.getD q 0 = x at *
      generalize b.getD q 0 = y at *
      go_wp2_with fail
      refine HD1.out.mono ?_
      rintro e w1 ⟨rfl, rfl⟩
      go_wp2_with fail
      refine HDD2.out.mono ?_
      rintro e w1 ⟨rfl, rfl⟩
      by_cases hxy : x = y
      · subst hxy
        have hb0 : (x != x) = false := by simp
        have hc : CmpI a b m (.int .i64 ((q : Int) - 1)) := by
          have t1 := TA.out
          have t2 := TB.out
          have f1 := E1.out
          have f2 := E2.out
          rw [t1, t2] at f1 f2
          exact ⟨q, by omega, rfl, by rw [← f1]; omega, by rw [← f2]; omega⟩
        have HC := Lib.hid hc
        clear hc
        go_wp2_with fail
        go_roundw
        case rel => exact ⟨HC.out, by first | rfl | trivial⟩
        case measure => simp [intOf]
      · have hb0 : (x != y) = true := by simpa using hxy
        have hz : CmpP (val a) (val b) (x - y) := by
          have f1 := E1.out
          have f2 := E2.out
          unfold CmpP
          rcases Int.lt_or_gt_of_ne hxy with hlt | hgt
          · have := L1.out hlt
            refine ⟨⟨fun _ => f1.1 this, fun _ => by omega⟩, ⟨fun h => by omega, fun h => ?_⟩⟩
            have := f1.1 this
            omega
          · have g := L2.out hgt
            refine ⟨⟨fun h => by omega, fun h => ?_⟩, ⟨fun h => by omega, fun h => ?_⟩⟩
            · have := f1.2 h; omega
            · have := f2.2 h; omega
        have HZ := Lib.hid hz
        clear hz
        go_wp2_with fail
        refine HD1.out.mono ?_
        rintro e w1 ⟨rfl, rfl⟩
        go_wp2_with fail
        refine HDD2.out.mono ?_
        rintro e w1 ⟨rfl, rfl⟩
        go_wp2_with fail
        go_ret
        exact ⟨x - y, by first | rfl | trace_state, HZ.out, rfl⟩
theorem int_info7 : (Try.prog.info? 3).map (fun i => (i.zero, i.size, i.bytes)) = some (some (.int .i64 0), 1, 8) := by kernel_rfl
theorem info7 {P : Program} {t : TypeId} {z : Value} {size bytes : Nat} (h : (P.info? t).map (fun i => (i.zero, i.size, i.bytes)) = some (some z, size, bytes)) : ∃ i, P.info? t = some i ∧ i.zero = some z ∧ i.size = size ∧ i.bytes = bytes := by
  cases e : P.info? t with
  | none => rw [e] at h; cases h
  | some i =>
    rw [e] at h
    simp only [Option.map_some, Option.some.injEq, Prod.mk.injEq] at h
    exact ⟨i, rfl, h.1, h.2.1, h.2.2⟩
theorem own_ge {w : World} {base size n g : Nat} {t : TypeId} {v : Value} {xs : List Value} (h : w.ownsRow base t size v n xs) (hg : v.ownBlock = some g) : base ≤ g := by
  rcases h.2 with ⟨rfl, _⟩ | ⟨g', cap, cur, rfl, hb, _⟩
  · cases hg
  · injection hg with hg; subst hg; exact hb
theorem own_form {w : World} {base size n : Nat} {t : TypeId} {v : Value} {xs : List Value} (h : w.ownsRow base t size v n xs) : ∃ A c, v = .slice A n c ∧ n ≤ c ∧ c ≤ maxLen := by
  rcases h.2 with ⟨rfl, rfl⟩ | ⟨g', cap, cur, rfl, _, _, h1, h2, _⟩
  · exact ⟨none, 0, rfl, Nat.le_refl _, Nat.zero_le _⟩
  · exact ⟨_, cap, rfl, h1, h2⟩
theorem own_alloc {w : World} {base size n : Nat} {t : TypeId} {v : Value} {xs : List Value} (h : w.ownsRow base t size v n xs) (o : Obj) : (w.alloc o).ownsRow base t size v n xs := ownsRow_below h ((Below.refl _ _).alloc (Nat.le_refl _) o) (Nat.le_refl _)
theorem own_new (w : World) (t : TypeId) (base : Nat) (hb : base ≤ w.heap.size) : (w.alloc (.cells #[] t)).ownsRow base t 1 (.slice (some ⟨w.heap.size, 0, none⟩) 0 0) 0 [] :=
  ⟨by simp, .inr ⟨w.heap.size, 0, _, rfl, hb, heap_alloc_new w _, by simp, by simp, by simp, by simp⟩⟩
theorem fromBelow {w w' : World} (h : Below w.heap.size w w') : GrowW w w' := Fr.of_below h fun _ hk _ => hk
theorem dints_snoc (l : List Int) (x : Int) : dints (l ++ [x]) = dints l ++ [.int .i64 x] := by simp [dints]
/-- a row of digits of the call's own -/
def RowP (w : World) (x : Int) (n : Nat) (e : Ending) (w' : World) : Prop :=
  ∃ (A : Option Addr) (c : Nat) (d : List Int), e = .returned (.slice A d.length c) ∧ Reads w' w'.heap.size 1 A d.length (dints d) ∧ d.length ≤ c ∧ c ≤ maxLen ∧ Dig d ∧ val d = x ∧ d.length = n ∧ Below w.heap.size w w'
theorem RowP.of_own {w w' : World} {x : Int} {n : Nat} {v : Value} {d : List Int} (h : w'.ownsRow w.heap.size 3 1 v d.length (dints d)) (hd : Dig d) (hv : val d = x) (hn : d.length = n) (hb : Below w.heap.size w w') : RowP w x n (.returned v) w' := by
  obtain ⟨A, c, rfl, h1, h2⟩ := own_form h
  exact ⟨A, c, d, rfl, Reads.of_own h, h1, h2, hd, hv, hn, hb⟩
def PlI (a b : List Int) (w : World) (m : Nat) (v cy i : Value) (wr : World) : Prop := ∃ (k : Nat) (out : List Int) (cr : Int), i = .int .i64 k ∧ k ≤ m + 1 ∧ cy = .int .i64 cr ∧ 0 ≤ cr ∧ cr ≤ 1 ∧ out.length = k ∧ Dig out ∧ val out + pw k * cr = val (a.take k) + val (b.take k) ∧ wr.ownsRow w.heap.size 3 1 v out.length (dints out) ∧ Below w.heap.size w wr
set_option maxHeartbeats 1000000 in
set_option maxRecDepth 100000 in
theorem nplus_any (A A2 : Option Addr) (c c2 B : Nat) (a b : List Int) (w : World) (h : Reads w B 1 A a.length (dints a)) (h2 : Reads w B 1 A2 b.length (dints b)) (hB : B ≤ w.heap.size) (ha : Dig a) (hb : Dig b) (hl : a.length ≤ 100000) (hl2 : b.length ≤ 100000) :
    Calls Try.prog 58 #[.slice A a.length c, .slice A2 b.length c2] w (RowP w (val a + val b) (max a.length b.length + 1)) := by
  obtain ⟨i0, hi, hz0, hz1, hz2⟩ := info7 int_info7
  have HD := Lib.hid (fun i hi W hW => digit_any A c B a i W (reads_grow h hB hW) (Nat.le_trans hB hW.size) (by omega) hi)
  have HD2 := Lib.hid (fun i hi W hW => digit_any A2 c2 B b i W (reads_grow h2 hB hW) (Nat.le_trans hB hW.size) (by omega) hi)
  obtain ⟨m, hm⟩ : ∃ m, m = max a.length b.length := ⟨_, rfl⟩
  have hmi : (if a.length < b.length then (b.length : Int) else (a.length : Int)) = (m : Int) := by split <;> omega
  have hm1 : a.length ≤ m ∧ b.length ≤ m ∧ m ≤ 100000 := by omega
  rw [← hm]
  have HA := Lib.hid ha
  have HB := Lib.hid hb
  have HT := Lib.hid (And.intro (take_all a (show a.length ≤ m + 1 by omega)) (take_all b (show b.length ≤ m + 1 by omega)))
  have HL := Lib.hid (And.intro (Int.lt_of_lt_of_le (val_lt ha) (pw_le hm1.1)) (Int.lt_of_lt_of_le (val_lt hb) (pw_le hm1.2.1)))
  clear h h2 ha hb hm
  generalize hna : a.length = na at *
  generalize hnb : b.length = nb at *
  clear hna hnb
  go_enter Try.func58, Try.ntmps58
  go_wp2_with fail
  have h0 : PlI a b w m (.slice (some ⟨w.heap.size, 0, none⟩) 0 0) (.int .i64 0) (.int .i64 0) (w.alloc (.cells #[] 3)) := ⟨0, [], 0, rfl, by omega, rfl, by omega, by omega, rfl, Dig.nil, by simp [val], own_new w _ _ (Nat.le_refl _), (Below.refl _ _).alloc (Nat.le_refl _) _⟩
  have H0 := Lib.hid h0
  clear h0
  go_loopw [5, 6, 7] (fun v cy i wr => PlI a b w m v cy i wr) (fun _ _ i _ => m + 1 - (intOf i).toNat)
  case atStart => exact H0.out
  case round =>
    clear H0
    obtain ⟨k, out, cr, rfl, hk, rfl, hc0, hc1, hol, hod, hval, hown, hbl⟩ := hrel
    obtain ⟨Av, cv, rfl, hcv1, hcv2⟩ := own_form hown
    have HV := Lib.hid hval
    have HO := Lib.hid hown
    have HBL := Lib.hid hbl
    have HOD := Lib.hid hod
    have HOL := Lib.hid hol
    have hsz := hbl.size
    clear hval hown hbl hod hol
    by_cases hlt : (k : Int) ≤ (m : Int)
    · obtain ⟨x0, x1⟩ := HA.out.at k
      obtain ⟨y0, y1⟩ := HB.out.at k
      have TA := Lib.hid (take_succ_val a k)
      have TB := Lib.hid (take_succ_val b k)
      have D1 := Lib.hid (HD.out k (by omega) wr (fromBelow HBL.out))
      have D2 := Lib.hid (HD2.out k (by omega) wr (fromBelow HBL.out))
      generalize a.getD k 0 = x at *
      generalize b.getD k 0 = y at *
      go_wp2_with fail
      refine D1.out.mono ?_
      rintro e w1 ⟨rfl, rfl⟩
      go_wp2_with fail
      refine D2.out.mono ?_
      rintro e w1 ⟨rfl, rfl⟩
      obtain ⟨t, ht⟩ : ∃ t, t = x + y + cr := ⟨_, rfl⟩
      have ht0 : 0 ≤ t ∧ t < 131072 := by omega
      obtain ⟨r, hr⟩ : ∃ r, r = t % 65536 := ⟨_, rfl⟩
      obtain ⟨q, hq⟩ : ∃ q, q = t / 65536 := ⟨_, rfl⟩
      have hrq : t = 65536 * q + r ∧ 0 ≤ r ∧ r < 65536 ∧ 0 ≤ q ∧ q ≤ 1 := by omega
      have tm : (x + y + cr) % 65536 = r := by rw [hr, ht]
      have td : (x + y + cr) / 65536 = q := by rw [hq, ht]
      have hxy : 0 ≤ x + y + cr ∧ x + y + cr < 131072 := by omega
      have hpl : val (out ++ [r]) + pw (k + 1) * q = val (a.take (k + 1)) + val (b.take (k + 1)) := by
        rw [val_snoc, HOL.out, TA.out, TB.out, pw_succ]
        have h1 := HV.out
        have h2 : pw k * x + pw k * y + pw k * cr = pw k * t := by rw [ht, Int.mul_add, Int.mul_add]
        have h3 : pw k * t = 65536 * pw k * q + pw k * r := by rw [hrq.1, Int.mul_add, ← Int.mul_assoc, Int.mul_comm (pw k) 65536]
        omega
      have HPL := Lib.hid hpl
      have HTT := Lib.hid ht
      have HOR := Lib.hid (HOD.out.append (Dig.one hrq.2.1 hrq.2.2.1))
      clear hpl ht hr hq D1 D2 TA TB
      have hz3 : (wr.alloc (.cells #[.int .i64 r] 3)).heap.size = wr.heap.size + 1 := by simp
      have hRO : Reads (wr.alloc (.cells #[.int .i64 r] 3)) (wr.heap.size + 1) 1 (some ⟨wr.heap.size, 0, none⟩) 1 (dints [r]) := Reads.one_new wr 3 [.int .i64 r]
      have HRO := Lib.hid hRO
      clear hRO
      go_wp2_with (at_builtin; refine wpList_append_any _ rfl (.tmp 28) (.tmp 31) _ rfl w.heap.size 3 i0 _ 1 8 Try.underlying30 hi hz0 hz1 hz2 rfl (by decide) (.slice Av out.length cv) out.length (dints out) rfl (own_alloc HO.out _) (wr.heap.size + 1) (some ⟨wr.heap.size, 0, none⟩) 1 1 (dints [r]) rfl HRO.out (dints_one _) (by have := HOL.out; unfold maxLen; omega) (by have := HOL.out; omega) (by omega) ?_; intro v3 w3 hown3 hg3 _)
      have hbl3 : Below w.heap.size w w3 := Below.grown (HBL.out.alloc HBL.out.size _) hg3 (by simp; omega) (fun g hg => own_ge HO.out hg)
      refine ⟨⟨k + 1, out ++ [r], q, by go_num, by omega, by rw [td], hrq.2.2.2.1, hrq.2.2.2.2, by have := HOL.out; simp; omega, HOR.out, HPL.out, ?_, hbl3⟩, by simp [intOf]; omega⟩
      rw [List.length_append, List.length_singleton, dints_snoc]
      exact hown3
    · obtain rfl : k = m + 1 := by omega
      have hz : cr = 0 := by
        have h1 := HV.out
        rw [HT.out.1, HT.out.2, pw_succ] at h1
        have h2 := val_nonneg HOD.out
        have h3 := HL.out
        have h4 := pw_pos m
        by_cases e : cr = 1
        · rw [e] at h1; omega
        · omega
      subst hz
      have hv : val out = val a + val b := by
        have h1 := HV.out
        rw [HT.out.1, HT.out.2, Int.mul_zero] at h1
        omega
      have HVV := Lib.hid hv
      clear hv
      go_wp2_with fail
      go_ret
      exact RowP.of_own HO.out HOD.out HVV.out HOL.out HBL.out
def LsI (a b : List Int) (w : World) (m : Nat) (v cy i : Value) (wr : World) : Prop := ∃ (k : Nat) (out : List Int) (cr : Int), i = .int .i64 k ∧ k ≤ m ∧ cy = .int .i64 cr ∧ 0 ≤ cr ∧ cr ≤ 1 ∧ out.length = k ∧ Dig out ∧ val out - pw k * cr = val (a.take k) - val (b.take k) ∧ wr.ownsRow w.heap.size 3 1 v out.length (dints out) ∧ Below w.heap.size w wr
set_option maxHeartbeats 1000000 in
set_option maxRecDepth 100000 in
theorem nless_any (A A2 : Option Addr) (c c2 B : Nat) (a b : List Int) (w : World) (h : Reads w B 1 A a.length (dints a)) (h2 : Reads w B 1 A2 b.length (dints b)) (hB : B ≤ w.heap.size) (ha : Dig a) (hb : Dig b) (hl : a.length ≤ 100000) (hl2 : b.length ≤ a.length) (hle : val b ≤ val a) :
    Calls Try.prog 57 #[.slice A a.length c, .slice A2 b.length c2] w (RowP w (val a - val b) a.length) := by
  obtain ⟨i0, hi, hz0, hz1, hz2⟩ := info7 int_info7
  have HD := Lib.hid (fun i hi W hW => digit_any A c B a i W (reads_grow h hB hW) (Nat.le_trans hB hW.size) (by omega) hi)
  have HD2 := Lib.hid (fun i hi W hW => digit_any A2 c2 B b i W (reads_grow h2 hB hW) (Nat.le_trans hB hW.size) (by omega) hi)
  have HA := Lib.hid ha
  have HB := Lib.hid hb
  have HT := Lib.hid (And.intro (take_all a (Nat.le_refl _)) (take_all b hl2))
  have HLE := Lib.hid hle
  clear h h2 ha hb hle
  generalize hna : a.length = m at *
  generalize hnb : b.length = nb at *
  clear hna hnb
  go_enter Try.func57, Try.ntmps57
  go_wp2_with fail
  have h0 : LsI a b w m (.slice (some ⟨w.heap.size, 0, none⟩) 0 0) (.int .i64 0) (.int .i64 0) (w.alloc (.cells #[] 3)) := ⟨0, [], 0, rfl, by omega, rfl, by omega, by omega, rfl, Dig.nil, by simp [val], own_new w _ _ (Nat.le_refl _), (Below.refl _ _).alloc (Nat.le_refl _) _⟩
  have H0 := Lib.hid h0
  clear h0
  go_loopw [5, 6, 7] (fun v cy i wr => LsI a b w m v cy i wr) (fun _ _ i _ => m - (intOf i).toNat)
  case atStart => exact H0.out
  case round =>
    clear H0
    obtain ⟨k, out, cr, rfl, hk, rfl, hc0, hc1, hol, hod, hval, hown, hbl⟩ := hrel
    obtain ⟨Av, cv, rfl, hcv1, hcv2⟩ := own_form hown
    have HV := Lib.hid hval
    have HO := Lib.hid hown
    have HBL := Lib.hid hbl
    have HOD := Lib.hid hod
    have HOL := Lib.hid hol
    have hsz := hbl.size
    clear hval hown hbl hod hol
    by_cases hlt : (k : Int) < (m : Int)
    · obtain ⟨x0, x1⟩ := HA.out.at k
      obtain ⟨y0, y1⟩ := HB.out.at k
      have TA := Lib.hid (take_succ_val a k)
      have TB := Lib.hid (take_succ_val b k)
      have D1 := Lib.hid (HD.out k (by omega) wr (fromBelow HBL.out))
      have D2 := Lib.hid (HD2.out k (by omega) wr (fromBelow HBL.out))
      generalize a.getD k 0 = x at *
      generalize b.getD k 0 = y at *
      go_wp2_with fail
      refine D1.out.mono ?_
      rintro e w1 ⟨rfl, rfl⟩
      go_wp2_with fail
      refine D2.out.mono ?_
      rintro e w1 ⟨rfl, rfl⟩
      by_cases hneg : x - y - cr < 0
      · have hneg2 : x - y < cr := by omega
        have hxy : 0 ≤ x - y - cr + 65536 ∧ x - y - cr + 65536 < 65536 := by omega
        have hpl : val (out ++ [x - y - cr + 65536]) - pw (k + 1) * 1 = val (a.take (k + 1)) - val (b.take (k + 1)) := by
          rw [val_snoc, HOL.out, TA.out, TB.out, pw_succ]
          have h1 := HV.out
          have h2 : pw k * (x - y - cr + 65536) = pw k * x - pw k * y - pw k * cr + pw k * 65536 := by rw [Int.mul_add, Int.mul_sub, Int.mul_sub]
          omega
        have HPL := Lib.hid hpl
        have HOR := Lib.hid (HOD.out.append (Dig.one hxy.1 hxy.2))
        clear hpl D1 D2 TA TB
        have hRO : Reads (wr.alloc (.cells #[.int .i64 (x - y - cr + 65536)] 3)) (wr.heap.size + 1) 1 (some ⟨wr.heap.size, 0, none⟩) 1 (dints [x - y - cr + 65536]) := Reads.one_new wr 3 [.int .i64 (x - y - cr + 65536)]
        have HRO := Lib.hid hRO
        clear hRO
        go_wp2_with (at_builtin; refine wpList_append_any _ rfl (.tmp 29) (.tmp 31) _ rfl w.heap.size 3 i0 _ 1 8 Try.underlying30 hi hz0 hz1 hz2 rfl (by decide) (.slice Av out.length cv) out.length (dints out) rfl (own_alloc HO.out _) (wr.heap.size + 1) (some ⟨wr.heap.size, 0, none⟩) 1 1 (dints [x - y - cr + 65536]) rfl HRO.out (dints_one _) (by have := HOL.out; unfold maxLen; omega) (by have := HOL.out; omega) (by simp; omega) ?_; intro v3 w3 hown3 hg3 _)
        have hbl3 : Below w.heap.size w w3 := Below.grown (HBL.out.alloc HBL.out.size _) hg3 (by simp; omega) (fun g hg => own_ge HO.out hg)
        refine ⟨⟨k + 1, out ++ [x - y - cr + 65536], 1, by go_num, by omega, rfl, by omega, by omega, by have := HOL.out; simp; omega, HOR.out, HPL.out, ?_, hbl3⟩, by simp [intOf]; omega⟩
        rw [List.length_append, List.length_singleton, dints_snoc]
        exact hown3
      · have hneg2 : ¬ x - y < cr := by omega
        have hxy : 0 ≤ x - y - cr ∧ x - y - cr < 65536 := by omega
        have hpl : val (out ++ [x - y - cr]) - pw (k + 1) * 0 = val (a.take (k + 1)) - val (b.take (k + 1)) := by
          rw [val_snoc, HOL.out, TA.out, TB.out, pw_succ]
          have h1 := HV.out
          have h2 : pw k * (x - y - cr) = pw k * x - pw k * y - pw k * cr := by rw [Int.mul_sub, Int.mul_sub]
          omega
        have HPL := Lib.hid hpl
        have HOR := Lib.hid (HOD.out.append (Dig.one hxy.1 hxy.2))
        clear hpl D1 D2 TA TB
        have hRO : Reads (wr.alloc (.cells #[.int .i64 (x - y - cr)] 3)) (wr.heap.size + 1) 1 (some ⟨wr.heap.size, 0, none⟩) 1 (dints [x - y - cr]) := Reads.one_new wr 3 [.int .i64 (x - y - cr)]
        have HRO := Lib.hid hRO
        clear hRO
        go_wp2_with (at_builtin; refine wpList_append_any _ rfl (.tmp 29) (.tmp 31) _ rfl w.heap.size 3 i0 _ 1 8 Try.underlying30 hi hz0 hz1 hz2 rfl (by decide) (.slice Av out.length cv) out.length (dints out) rfl (own_alloc HO.out _) (wr.heap.size + 1) (some ⟨wr.heap.size, 0, none⟩) 1 1 (dints [x - y - cr]) rfl HRO.out (dints_one _) (by have := HOL.out; unfold maxLen; omega) (by have := HOL.out; omega) (by simp; omega) ?_; intro v3 w3 hown3 hg3 _)
        have hbl3 : Below w.heap.size w w3 := Below.grown (HBL.out.alloc HBL.out.size _) hg3 (by simp; omega) (fun g hg => own_ge HO.out hg)
        refine ⟨⟨k + 1, out ++ [x - y - cr], 0, by go_num, by omega, rfl, by omega, by omega, by have := HOL.out; simp; omega, HOR.out, HPL.out, ?_, hbl3⟩, by simp [intOf]; omega⟩
        rw [List.length_append, List.length_singleton, dints_snoc]
        exact hown3
    · obtain rfl : k = m := by omega
      have hz : cr = 0 := by
        have h1 := HV.out
        rw [HT.out.1, HT.out.2] at h1
        have h2 := val_lt HOD.out
        rw [HOL.out] at h2
        have h3 := HLE.out
        by_cases e : cr = 1
        · rw [e, Int.mul_one] at h1; omega
        · omega
      subst hz
      have hv : val out = val a - val b := by
        have h1 := HV.out
        rw [HT.out.1, HT.out.2, Int.mul_zero] at h1
        omega
      have HVV := Lib.hid hv
      clear hv
      go_wp2_with fail
      go_ret
      exact RowP.of_own HO.out HOD.out HVV.out HOL.out HBL.out
end Go.Proofs.Ytnalbkjbidaojaa
