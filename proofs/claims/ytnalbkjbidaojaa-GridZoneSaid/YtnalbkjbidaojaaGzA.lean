/- grid.scaler, what it makes, and grid.Zone: their contracts. -/
import Derived.Test.YtnalbkjbidaojaaZZone
import Derived.Test.YtnalbkjbidaojaaZClone
import Derived.Test.YtnalbkjbidaojaaScaleAll
import Derived.Deep.CutBlock
namespace Go.Proofs.Ytnalbkjbidaojaa
open Go.RowKit Mc

/-- the cells of points that are on a curve, or off -/
def opts (l : List (Int × Int × Bool)) : List Value := l.flatMap fun p => [.int .i64 p.1, .int .i64 p.2.1, .bool p.2.2]
theorem opts_len (l : List (Int × Int × Bool)) : (opts l).length = l.length * 3 := by
  induction l with
  | nil => rfl
  | cons a r ih => simp only [opts, List.flatMap_cons, List.length_append, List.length_cons, List.length_nil] at *; omega
theorem opts_at : ∀ (l : List (Int × Int × Bool)) (k : Nat) (x : Int × Int × Bool), l[k]? = some x → (opts l)[k * 3]? = some (.int .i64 x.1) ∧ (opts l)[k * 3 + 1]? = some (.int .i64 x.2.1) ∧ (opts l)[k * 3 + 2]? = some (.bool x.2.2)
  | [], k, x, h => by simp at h
  | y :: r, 0, x, h => by
    simp only [List.getElem?_cons_zero, Option.some.injEq] at h
    subst h
    exact ⟨rfl, rfl, rfl⟩
  | y :: r, k + 1, x, h => by
    have := opts_at r k x (by simpa using h)
    rw [Nat.add_mul]
    exact this
theorem scaler_any (unit size : Int) (w : World) : Calls Try.prog 20 #[.int .i64 unit, .int .i64 size] w fun e w' => e = .returned (.func (.func 42) #[] #[.pointer (some ⟨w.heap.size, 0, none⟩), .pointer (some ⟨w.heap.size + 1, 0, none⟩)]) ∧ (w.alloc (.cells #[.int .i64 unit] 3)).alloc (.cells #[.int .i64 size] 3) = w' := by
  go_enter Try.func20, Try.ntmps20
  go_wp2
  go_ret
  exact ⟨rfl, rfl⟩
def ScI (X : World) (g : Nat) (l : List Int) (unit size : Int) (i : Value) (wr : World) : Prop := ∃ k : Nat, i = .int .i64 (k : Int) ∧ k ≤ l.length ∧ Blk wr g 3 (ints (mk l.length k (fun j => gsc unit size (l.getD j 0)) 0)).toArray ∧ Below g X wr
set_option maxHeartbeats 1000000 in
set_option maxRecDepth 100000 in
theorem scl_any (A : Option Addr) (c B a b : Nat) (l : List Int) (unit size : Int) (w : World) (h : Reads w B 1 A l.length (ints l)) (hB : B ≤ w.heap.size) (hl : l.length ≤ 1000000) (hi : ∀ x ∈ l, -9223372036854775808 ≤ x ∧ x ≤ 9223372036854775807) (hu : -9223372036854775808 ≤ unit ∧ unit ≤ 9223372036854775807)
    (ha : w.cell? ⟨a, 0, none⟩ = some (.int .i64 unit)) (hb : w.cell? ⟨b, 0, none⟩ = some (.int .i64 size)) (hal : a < w.heap.size) (hbl0 : b < w.heap.size) :
    Calls Try.prog 42 #[.slice A l.length c, .pointer (some ⟨a, 0, none⟩), .pointer (some ⟨b, 0, none⟩)] w fun e w' => ∃ g, e = .returned (.slice (some ⟨g, 0, none⟩) l.length l.length) ∧ w.heap.size ≤ g ∧ Blk w' g 3 (ints (l.map (gsc unit size))).toArray ∧ Below w.heap.size w w' := by
  obtain ⟨n, hn⟩ : ∃ n, n = l.length := ⟨_, rfl⟩
  obtain ⟨X, hX⟩ : ∃ X, X = w.alloc (.cells (ints (List.replicate n 0)).toArray 3) := ⟨_, rfl⟩
  have hXw : Below w.heap.size w X := by rw [hX]; exact (Below.refl _ _).alloc (Nat.le_refl _) _
  have hX0 : ScI X w.heap.size l unit size (.int .i64 0) X := ⟨0, rfl, Nat.zero_le _, by rw [mk_zero, hX, hn]; exact Blk.new _ _ _, Below.refl _ _⟩
  have H0 := Lib.hid hX0
  have HX := Lib.hid hX
  have HXW := Lib.hid hXw
  have HR := Lib.hid (h.below hXw hB)
  have HI := Lib.hid hi
  have HU := Lib.hid hu
  have hmk := make_ints n (by omega) w
  have HN := Lib.hid hn
  have hA : X.cell? ⟨a, 0, none⟩ = some (.int .i64 unit) := (hXw.cell (p := ⟨a, 0, none⟩) hal).trans ha
  have hBb : X.cell? ⟨b, 0, none⟩ = some (.int .i64 size) := (hXw.cell (p := ⟨b, 0, none⟩) hbl0).trans hb
  have HA := Lib.hid (And.intro hA hBb)
  have hzX : X.heap.size = w.heap.size + 1 := by rw [hX]; simp
  rw [← hn] at hl ⊢
  clear h hX hXw hX0 hi hu ha hb hA hBb hn
  go_enter Try.func42, Try.ntmps42
  go_upto_region 2 with fail
  rw [← HX.out]
  clear hmk
  go_wp2_with fail
  go_loopw [13] (fun i wr => ScI X w.heap.size l unit size i wr) (fun i _ => n - (intOf i).toNat)
  case atStart => exact H0.out
  case round =>
    clear H0
    obtain ⟨k, rfl, hk, hblk, hbl⟩ := hrel
    rw [← HN.out] at hk
    by_cases hlt : (k : Int) < (n : Int)
    · obtain ⟨x, hx⟩ : ∃ x, l[k]? = some x := ⟨_, List.getElem?_eq_getElem (by have := HN.out; omega)⟩
      obtain ⟨cb, co, rfl, hcb, hcc⟩ := HR.out.at_ (by have := HN.out; omega)
      have hcl : cb < wr.heap.size := by have := hbl.size; omega
      have x0 : wr.cell? ⟨cb, co + k, none⟩ = some (.int .i64 x) := (hbl.cell (p := ⟨cb, co + k, none⟩) (by simp; omega)).trans (hcc _ _ (ints_at l k x hx))
      have a0 : wr.cell? ⟨a, 0, none⟩ = some (.int .i64 unit) := (hbl.cell (p := ⟨a, 0, none⟩) hal).trans HA.out.1
      have b0 : wr.cell? ⟨b, 0, none⟩ = some (.int .i64 size) := (hbl.cell (p := ⟨b, 0, none⟩) hbl0).trans HA.out.2
      have hxI := HI.out x (List.mem_of_getElem? hx)
      have hgs : l.getD k 0 = x := getD_of hx
      have HGS := Lib.hid hgs
      have HC := Lib.hid (gscale_all unit size x wr hxI.1 hxI.2 HU.out.1 HU.out.2)
      have HBK := Lib.hid hblk
      have HBL := Lib.hid hbl
      have hal2 : a < wr.heap.size := by have := hbl.size; omega
      have hbl2 : b < wr.heap.size := by have := hbl.size; omega
      clear hcc hx hgs hblk hbl hxI
      go_wp2_with fail
      refine HC.out.mono ?_
      rintro e w2 ⟨rfl, hb2⟩
      have hk2 := HBK.out.below hb2 HBK.out.lt
      have c0 := hk2.cell k
      rw [List.getElem?_toArray, ints_at _ k 0 (by rw [mk_get (by have := HN.out; omega), if_neg (by omega)])] at c0
      have f0 := hk2.frozen k
      have gl := hk2.lt
      have hset : Blk (w2.setCell ⟨w.heap.size, k, none⟩ (.int .i64 (gsc unit size x))) w.heap.size 3 (ints (mk l.length (k + 1) (fun j => gsc unit size (l.getD j 0)) 0)).toArray := by
        have := hk2.set_ k (.int .i64 (gsc unit size x))
        rw [List.setIfInBounds_toArray, ← ints_set] at this
        have e : gsc unit size x = (fun j => gsc unit size (l.getD j 0)) k := by show _ = gsc unit size (l.getD k 0); rw [HGS.out]
        rw [e, mk_set (by have := HN.out; omega)] at this
        rw [e]
        exact this
      have HS := Lib.hid hset
      have HB2 := Lib.hid ((HBL.out.trans (hb2.mono (by have := HBL.out.size; omega))).setCell (p := ⟨w.heap.size, k, none⟩) (Nat.le_refl _) (.int .i64 (gsc unit size x)))
      clear hset hk2 hb2 HC HBK HBL x0 a0 b0
      generalize gsc unit size x = y at *
      go_wp2_with fail
      exact ⟨⟨k + 1, by first | rfl | go_num, by have := HN.out; omega, HS.out, HB2.out⟩, by simp [intOf]; omega⟩
    · have hke : k = l.length := by have := HN.out; omega
      subst hke
      rw [mk_full] at hblk
      have e : (List.range l.length).map (fun j => gsc unit size (l.getD j 0)) = l.map (gsc unit size) := by
        refine List.ext_getElem? fun j => ?_
        rw [List.getElem?_map, List.getElem?_map]
        rcases Nat.lt_or_ge j l.length with hj | hj
        · rw [List.getElem?_range hj, List.getElem?_eq_getElem hj]
          simp only [Option.map_some]
          rw [getD_of (List.getElem?_eq_getElem hj)]
        · rw [List.getElem?_eq_none (by simpa using hj), List.getElem?_eq_none hj]; rfl
      rw [e] at hblk
      have HBK := Lib.hid hblk
      have HBL := Lib.hid (HXW.out.trans hbl)
      clear hblk hbl e
      go_wp2
      go_ret
      exact ⟨w.heap.size, rfl, Nat.le_refl _, HBK.out, HBL.out⟩
abbrev P2 := Int × Int
def gzF (unit size : Int) (p : Int × Int × Bool) : Int × Int := (gsc unit size p.1, gsc unit size p.2.1)
/-- what grid.Zone tells -/
def gzn (unit size : Int) (pl : List (Int × Int × Bool)) (el : List Int) : Zn := ⟨pl.map (gzF unit size), pl.map (gzF unit size), List.replicate pl.length 0, el⟩
def GzI (X : World) (g : Nat) (pl : List (Int × Int × Bool)) (unit size : Int) (i : Value) (wr : World) : Prop := ∃ k : Nat, i = .int .i64 (k : Int) ∧ k ≤ pl.length ∧ Blk wr g 63 (pts (mk pl.length k (fun j => gzF unit size (pl.getD j (0, 0, false))) (0, 0))).toArray ∧ Below g X wr
def GzV (g n ob N : Nat) (P : List P2) (eA : Option Addr) (ec : Nat) (el : List Int) (i : Nat) (v : Value) (W : World) : Prop :=
  match i with
  | 0 => v = .slice (some ⟨g, 0, none⟩) n n
  | 1 => v = .slice (some ⟨g, 0, none⟩) n n
  | 2 => W.ownsRow N 63 2 v n (pts P)
  | 3 => v = .slice (some ⟨g, 0, none⟩) n n
  | 4 => v = .int .i64 (n : Int)
  | 5 => W.ownsRow N 3 1 v n (ints (List.replicate n 0))
  | 6 => v = .pointer (some ⟨ob, 1, none⟩)
  | 7 => v = .slice eA el.length ec
  | 8 => W.ownsRow N 3 1 v el.length (ints el)
  | 9 => ∃ vu vt ve, v = .agg #[.slice (some ⟨g, 0, none⟩) n n, vu, vt, ve] ∧ W.ownsRow N 63 2 vu n (pts P) ∧ W.ownsRow N 3 1 vt n (ints (List.replicate n 0)) ∧ W.ownsRow N 3 1 ve el.length (ints el)
  | _ => True
theorem GzV.grow {g n ob N : Nat} {P : List P2} {eA : Option Addr} {ec : Nat} {el : List Int} {i : Nat} {v : Value} {W W' : World} (h : GzV g n ob N P eA ec el i v W) (hg : Grow W W') : GzV g n ob N P eA ec el i v W' := by
  match i with
  | 0 | 1 | 3 | 4 | 6 | 7 => exact h
  | 2 => exact owns_grow h hg
  | 5 => exact owns_grow h hg
  | 8 => exact owns_grow h hg
  | 9 => obtain ⟨vu, vt, ve, e, h1, h2, h3⟩ := h; exact ⟨vu, vt, ve, e, owns_grow h1 hg, owns_grow h2 hg, owns_grow h3 hg⟩
  | i + 10 => trivial

set_option maxHeartbeats 2000000 in
set_option maxRecDepth 100000 in
theorem gzone_any (unit size : Int) (f1 f2 f3 f4 f5 f6 f7 f8 : Value) (pA eA : Option Addr) (pc ec B : Nat) (pl : List (Int × Int × Bool)) (el : List Int) (w : World) (hp : Reads w B 3 pA pl.length (opts pl)) (he : Reads w B 1 eA el.length (ints el)) (hB : B ≤ w.heap.size) (hpl : pl.length ≤ 1000000) (hel : el.length ≤ 1000000)
    (hi : ∀ p ∈ pl, (-9223372036854775808 ≤ p.1 ∧ p.1 ≤ 9223372036854775807) ∧ (-9223372036854775808 ≤ p.2.1 ∧ p.2.1 ≤ 9223372036854775807)) (hu : -9223372036854775808 ≤ unit ∧ unit ≤ 9223372036854775807) :
    Calls Try.prog 11 #[.agg #[.int .i64 unit, f1, f2, f3, f4, f5, f6, f7, f8], .agg #[.slice pA pl.length pc, .slice eA el.length ec], .int .i64 size] w (ZnPost w (gzn unit size pl el)) := by
  obtain ⟨n, hn⟩ : ∃ n, n = pl.length := ⟨_, rfl⟩
  have hmk := fun w => make_pts n (by omega) w
  have HMP := Lib.hid hmk
  rw [← hn] at hp hpl ⊢
  have HP := Lib.hid hp
  have HE := Lib.hid he
  have HI := Lib.hid hi
  have HU := Lib.hid hu
  have HN := Lib.hid hn
  have HEL := Lib.hid hel
  clear hp he hi hu hn hmk hel
  go_enter Try.func11, Try.ntmps11
  go_upto_region 1 with fail
  obtain ⟨X0, hX0⟩ : ∃ X, X = (((w.alloc (.cells #[.int .i64 unit, f1, f2, f3, f4, f5, f6, f7, f8] 42)).alloc (.cells #[.slice pA n pc, .slice eA el.length ec] 32)).alloc (.cells #[.slice none 0 0, .slice none 0 0, .slice none 0 0, .slice none 0 0] 47)) := ⟨_, rfl⟩
  rw [← hX0]
  have hXw : Below w.heap.size w X0 := by rw [hX0]; exact (((Below.refl _ _).alloc (Nat.le_refl _) _).alloc (by simp) _).alloc (by simp; omega) _
  have hb0 : Blk X0 w.heap.size 42 #[.int .i64 unit, f1, f2, f3, f4, f5, f6, f7, f8] := by rw [hX0]; exact ((Blk.new _ _ _).alloc _).alloc _
  have hb1 : Blk X0 (w.heap.size + 1) 32 #[.slice pA n pc, .slice eA el.length ec] := by rw [hX0]; exact (Blk.new_at _ _ _ (by simp)).alloc _
  have hb2 : Blk X0 (w.heap.size + 1 + 1) 47 #[.slice none 0 0, .slice none 0 0, .slice none 0 0, .slice none 0 0] := by rw [hX0]; exact Blk.new_at _ _ _ (by simp)
  have hz0 : X0.heap.size = w.heap.size + 3 := by rw [hX0]; simp
  have HB0 := Lib.hid hb0
  have HB1 := Lib.hid hb1
  have HB2 := Lib.hid hb2
  have HXW := Lib.hid hXw
  have a0 := hb0.cell 0
  have al := hb0.lt
  simp only [List.getElem?_toArray, List.getElem?_cons_zero] at a0
  have HZ0 := Lib.hid hz0
  clear hX0 hXw hb0 hb1 hb2 hz0
  go_wp2_with fail
  refine (scaler_any _ _ _).mono ?_
  rintro e w2 ⟨rfl, hw2⟩
  have h2b : Below X0.heap.size X0 w2 := by rw [← hw2]; exact ((Below.refl _ _).alloc (Nat.le_refl _) _).alloc (by simp) _
  have c2 : Blk w2 X0.heap.size 3 #[.int .i64 unit] := by rw [← hw2]; exact (Blk.new _ _ _).alloc _
  have d2 : Blk w2 (X0.heap.size + 1) 3 #[.int .i64 size] := by rw [← hw2]; exact Blk.new_at _ _ _ (by simp)
  have z2 : w2.heap.size = X0.heap.size + 2 := by rw [← hw2]; simp
  obtain ⟨X1, hX1⟩ : ∃ X, X = w2.alloc (.cells (pts (List.replicate n (0, 0))).toArray 63) := ⟨_, rfl⟩
  have h12 : Below w2.heap.size w2 X1 := by rw [hX1]; exact (Below.refl _ _).alloc (Nat.le_refl _) _
  have hbp : Blk X1 w2.heap.size 63 (pts (List.replicate n (0, 0))).toArray := by rw [hX1]; exact Blk.new _ _ _
  have hk1 := (HB1.out.below h2b HB1.out.lt)
  have b0 := hk1.cell 0
  have bl := hk1.lt
  simp only [List.getElem?_toArray, List.getElem?_cons_zero] at b0
  have hmk := HMP.out w2
  have HZ2 := Lib.hid z2
  clear a0 al hw2 z2
  go_upto_region 3 with fail
  rw [← hX1]
  have hz0 := HZ0.out
  have z2 := HZ2.out
  have HC2 := Lib.hid (c2.below h12 (by omega))
  have HD2 := Lib.hid (d2.below h12 (by omega))
  have HB1' := Lib.hid (hk1.below h12 hk1.lt)
  have HB2' := Lib.hid ((HB2.out.below h2b HB2.out.lt).below h12 (by have := HB2.out.lt; omega))
  have HX1W := Lib.hid ((HXW.out.trans (h2b.mono (by omega))).trans (h12.mono (by omega)))
  have b0 := HB1'.out.cell 0
  have bl := HB1'.out.lt
  simp only [List.getElem?_toArray, List.getElem?_cons_zero] at b0
  obtain ⟨g, hg⟩ : ∃ g, g = w2.heap.size := ⟨_, rfl⟩
  have HP' := Lib.hid (HP.out.below HX1W.out hB)
  have HE' := Lib.hid (HE.out.below HX1W.out hB)
  have H0 := Lib.hid (show GzI X1 g pl unit size (.int .i64 0) X1 from ⟨0, rfl, Nat.zero_le _, by rw [mk_zero, hg, ← HN.out]; exact hbp, Below.refl _ _⟩)
  have hgz : g = w.heap.size + 5 := by omega
  have hz1 : X1.heap.size = g + 1 := by rw [hX1]; simp [hg]
  obtain ⟨s, hs⟩ : ∃ s, s = X0.heap.size := ⟨_, rfl⟩
  have hsz : s = w.heap.size + 3 := by omega
  have HSZ := Lib.hid hsz
  rw [← hs] at HC2 HD2 ⊢
  rw [← hg]
  have HGZ := Lib.hid (And.intro hgz hz1)
  clear hgz hz1 h2b c2 d2 z2 h12 hbp hk1 hX1 hmk hg HP HE HB1 HB2 HB0 HXW hs hz0 HZ0 HZ2 hsz
  go_wp2_with fail
  go_loopw [23] (fun i wr => GzI X1 g pl unit size i wr) (fun i _ => n - (intOf i).toNat)
  case atStart => exact H0.out
  case round =>
    clear H0 b0 bl
    obtain ⟨k, rfl, hk, hblk, hbl⟩ := hrel
    rw [← HN.out] at hk
    have HBK := Lib.hid hblk
    have HBL := Lib.hid hbl
    clear hblk hbl
    obtain ⟨hgz, hz1⟩ := HGZ.out
    by_cases hlt : (k : Int) < (n : Int)
    · obtain ⟨⟨x, y, on⟩, hx⟩ : ∃ x, pl[k]? = some x := ⟨_, List.getElem?_eq_getElem (by have := HN.out; omega)⟩
      obtain ⟨cb, co, rfl, hcb, hcc⟩ := HP'.out.at_ (by have := HN.out; omega)
      have hcl : cb < wr.heap.size := by have := HBL.out.size; omega
      obtain ⟨q0, q1, q2⟩ := opts_at pl k _ hx
      have x0 : wr.cell? ⟨cb, co + k * 3, none⟩ = some (.int .i64 x) := (HBL.out.cell (p := ⟨cb, _, none⟩) (by simp; omega)).trans (hcc _ _ q0)
      have x1 : wr.cell? ⟨cb, co + k * 3 + 1, none⟩ = some (.int .i64 y) := (HBL.out.cell (p := ⟨cb, _, none⟩) (by simp; omega)).trans (by rw [Nat.add_assoc]; exact hcc _ _ q1)
      have x2 : wr.cell? ⟨cb, co + k * 3 + 2, none⟩ = some (.bool on) := (HBL.out.cell (p := ⟨cb, _, none⟩) (by simp; omega)).trans (by rw [Nat.add_assoc]; exact hcc _ _ q2)
      clear q0 q1 q2 hcc
      have HPX := Lib.hid (HI.out _ (List.mem_of_getElem? hx))
      have HXK := Lib.hid hx
      clear hx hgz hz1
      go_wp2_with fail
      obtain ⟨W5, hW5⟩ : ∃ W, W = ((wr.alloc (.cells #[.int .i64 x, .int .i64 y, .bool on] 61)).alloc (.cells #[.int .i64 x, .int .i64 y] 3)) := ⟨_, rfl⟩
      have h5b : Below wr.heap.size wr W5 := by rw [hW5]; exact ((Below.refl _ _).alloc (Nat.le_refl _) _).alloc (by simp) _
      have k5 : Blk W5 (wr.heap.size + 1) 3 (ints [x, y]).toArray := by rw [hW5]; exact Blk.new_at _ _ _ (by simp)
      have z5 : W5.heap.size = wr.heap.size + 2 := by rw [hW5]; simp
      rw [← hW5]
      have hsg := HSZ.out
      obtain ⟨hgz, hz1⟩ := HGZ.out
      have hbs := HBL.out.size
      have c5 := ((HC2.out.below HBL.out (by omega)).below h5b (by omega)).cell 0
      have d5 := ((HD2.out.below HBL.out (by omega)).below h5b (by omega)).cell 0
      simp only [List.getElem?_toArray, List.getElem?_cons_zero] at c5 d5
      have HC := Lib.hid (scl_any (some ⟨wr.heap.size + 1, 0, none⟩) 2 W5.heap.size s (s + 1) [x, y] unit size W5 (Reads.blk k5 1 2 rfl) (Nat.le_refl _) (by simp) (by intro z hz; simp only [List.mem_cons, List.not_mem_nil, or_false] at hz; rcases hz with rfl | rfl; exact HPX.out.1; exact HPX.out.2) HU.out c5 d5 (by omega) (by omega))
      clear x0 x1 x2
      refine HC.out.mono ?_
      rintro e w6 ⟨g6, rfl, hg6, k6, h6b⟩
      have hbk := (HBK.out.below h5b (by have := HBK.out.lt; omega)).below h6b (by have := HBK.out.lt; omega)
      have x5 := k6.cell 0
      have x6 := k6.cell 1
      simp only [List.getElem?_toArray, ints, List.map_cons, List.map_nil, List.getElem?_cons_zero, List.getElem?_cons_succ] at x5 x6
      have l6 := k6.lt
      have y0 := hbk.cell (k * 2)
      have y1 := hbk.cell (k * 2 + 1)
      have hpa := pts_at (mk pl.length k (fun j => gzF unit size (pl.getD j (0, 0, false))) (0, 0)) k (0, 0) (by rw [mk_get (by have := HN.out; omega), if_neg (by omega)])
      rw [List.getElem?_toArray, hpa.1] at y0
      rw [List.getElem?_toArray, hpa.2] at y1
      have f0 := hbk.frozen (k * 2)
      have f1 := hbk.frozen (k * 2 + 1)
      have yl := hbk.lt
      have hset : Blk ((w6.setCell ⟨g, k * 2, none⟩ (.int .i64 (gsc unit size x))).setCell ⟨g, k * 2 + 1, none⟩ (.int .i64 (gsc unit size y))) g 63 (pts (mk pl.length (k + 1) (fun j => gzF unit size (pl.getD j (0, 0, false))) (0, 0))).toArray := by
        have h := (hbk.set_ (k * 2) (.int .i64 (gsc unit size x))).set_ (k * 2 + 1) (.int .i64 (gsc unit size y))
        have hkl : k < pl.length := by have := HN.out; omega
        have e : (gsc unit size x, gsc unit size y) = (fun j => gzF unit size (pl.getD j (0, 0, false))) k := by show _ = gzF unit size (pl.getD k (0, 0, false)); rw [getD_of HXK.out]; rfl
        rw [pts_setA (by rw [mk_len]; exact hkl), e, mk_set hkl] at h
        exact h
      have HS := Lib.hid hset
      have HB7 := Lib.hid (((HBL.out.trans ((h5b.trans (h6b.mono (by omega))).mono (by omega))).setCell (p := ⟨g, k * 2, none⟩) (Nat.le_refl _) (.int .i64 (gsc unit size x))).setCell (p := ⟨g, k * 2 + 1, none⟩) (Nat.le_refl _) (.int .i64 (gsc unit size y)))
      have hgg : ¬ g6 = g := by omega
      clear hset hbk k6 h6b h5b k5 z5 c5 d5 HC HBK HBL hpa hW5 hsg hbs hgz hz1 hg6
      generalize gsc unit size x = x' at *
      generalize gsc unit size y = y' at *
      go_upto_region 7 with fail
      go_region
      go_wp2_with fail
      exact ⟨⟨k + 1, by first | rfl | go_num, by have := HN.out; omega, HS.out.drew, HB7.out.drew⟩, by simp [intOf]; omega⟩
    · have hke : k = pl.length := by have := HN.out; omega
      have hbk := HBK.out
      rw [hke, mk_full] at hbk
      have e : (List.range pl.length).map (fun j => gzF unit size (pl.getD j (0, 0, false))) = pl.map (gzF unit size) := by
        refine List.ext_getElem? fun j => ?_
        rw [List.getElem?_map, List.getElem?_map]
        rcases Nat.lt_or_ge j pl.length with hj | hj
        · rw [List.getElem?_range hj, List.getElem?_eq_getElem hj]
          simp only [Option.map_some]
          rw [getD_of (List.getElem?_eq_getElem hj)]
        · rw [List.getElem?_eq_none (by simpa using hj), List.getElem?_eq_none hj]; rfl
      rw [e] at hbk
      obtain ⟨P, hP⟩ : ∃ P, P = pl.map (gzF unit size) := ⟨_, rfl⟩
      rw [← hP] at hbk
      have HPL := Lib.hid (show P.length = n by rw [hP, List.length_map]; exact HN.out.symm)
      have HP2 := Lib.hid hP
      have hrp := (Reads.blk hbk 2 n (by rw [pts_len, HPL.out])).below (C := wr.heap.size) (Below.refl _ _) (Nat.le_refl _)
      have hown : wr.ownsRow w.heap.size 63 2 (.slice (some ⟨g, 0, none⟩) n n) n (pts P) :=
        ⟨by rw [pts_len, HPL.out], .inr ⟨g, n, (pts P).toArray, rfl, by omega, hbk, Nat.le_refl _, by unfold maxLen; omega, by simp [pts_len, HPL.out], by rw [List.take_of_length_le (by simp [pts_len, HPL.out])]⟩⟩
      have HRP : Hid (Reads wr (g + 1) 2 (some ⟨g, 0, none⟩) n (pts P)) := Lib.hid ⟨by rw [pts_len, HPL.out], fun hn => ⟨g, 0, rfl, by omega, fun j u hu => by rw [Nat.zero_add, hbk.cell]; simpa using hu⟩⟩
      have HOW := Lib.hid hown
      have hbs := HBL.out.size
      have HGX := Lib.hid (show g < wr.heap.size by omega)
      have HBX := Lib.hid (show B ≤ wr.heap.size by omega)
      have HRE := Lib.hid (HE'.out.below HBL.out (by omega))
      have HOB := Lib.hid (HB1'.out.below HBL.out (by omega))
      have HZB := Lib.hid (HB2'.out.below HBL.out (by omega))
      have HWR := Lib.hid (HX1W.out.trans (HBL.out.mono (by omega)))
      have HMK := Lib.hid (make_ints n (by omega))
      have HN2 := Lib.hid hpl
      have HZZ := Lib.hid (And.intro (show w.heap.size + 1 + 1 < wr.heap.size by omega) (show w.heap.size + 1 + 1 ≠ g by omega))
      clear hrp hown hbk hke hP e HBK HBL hgz hz1 hbs
      go_upto_region 9 with fail
      refine wp_region_conc (GzV g n (w.heap.size + 1) wr.heap.size P eA ec el) (fun W => Grow wr W) Grow (by as_aux_lemma => kernel_rfl) (by as_aux_lemma => kernel_rfl) 10 rfl ?_ ?_ ?_ ?_
      · intro i v W W' hv hr
        exact hv.grow hr
      · exact (Fr.refl _ _).drew
      · intro j ev val W hj hG hev hd
        have _ec := hev.const
        have _ef := hev.func
        have HGG := Lib.hid hG
        have hzW := hG.size
        clear hG
        match j, hj with
        | 0, _ =>
          have _s8 : ev (.tmp 8) = .slice (some ⟨g, 0, none⟩) n n := hev.other 8 (by kernel_rfl)
          refine ⟨_, rfl, rfl, ?_⟩; unfold yields; go_simp
          exact ⟨rfl, HGG.out, Fr.refl _ _⟩
        | 1, _ =>
          have _s8 : ev (.tmp 8) = .slice (some ⟨g, 0, none⟩) n n := hev.other 8 (by kernel_rfl)
          refine ⟨_, rfl, rfl, ?_⟩; unfold yields; go_simp
          exact ⟨rfl, HGG.out, Fr.refl _ _⟩
        | 2, _ =>
          have d1 := hd 1 (by kernel_rfl); have x1 := hev.dep 1 47 (by kernel_rfl) (by kernel_rfl); simp only [GzV] at d1
          rw [d1] at x1
          refine ⟨_, rfl, rfl, ?_⟩; unfold yields; go_simp
          refine (clone_pt W _ n n (g + 1) (pts P) (HRP.out.keep fun q hq => HGG.out.cell (by have := HGX.out; omega) (fun x => x)) (pts_one _) (by have := HN2.out; omega)).mono ?_
          rintro e w5 ⟨v5, rfl, ho, hg5⟩
          exact ⟨_, rfl, owns_mono ho hzW, HGG.out.trans hg5, hg5⟩
        | 3, _ =>
          have _s8 : ev (.tmp 8) = .slice (some ⟨g, 0, none⟩) n n := hev.other 8 (by kernel_rfl)
          refine ⟨_, rfl, rfl, ?_⟩; unfold yields; go_simp
          exact ⟨rfl, HGG.out, Fr.refl _ _⟩
        | 4, _ =>
          have d3 := hd 3 (by kernel_rfl); have x3 := hev.dep 3 49 (by kernel_rfl) (by kernel_rfl); simp only [GzV] at d3
          rw [d3] at x3
          refine ⟨_, rfl, rfl, ?_⟩; unfold yields; go_simp
          exact ⟨rfl, HGG.out, Fr.refl _ _⟩
        | 5, _ =>
          have d4 := hd 4 (by kernel_rfl); have x4 := hev.dep 4 50 (by kernel_rfl) (by kernel_rfl); simp only [GzV] at d4
          rw [d4] at x4
          have hmk := HMK.out W
          refine ⟨_, rfl, rfl, ?_⟩; unfold yields; go_simp
          exact ⟨owns_made (by simp [ints]) hzW (by have := HN2.out; unfold maxLen; omega), HGG.out.alloc _, (Fr.refl _ _).alloc _⟩
        | 6, _ =>
          have _s4 : ev (.tmp 4) = .pointer (some ⟨w.heap.size + 1, 0, none⟩) := hev.other 4 (by kernel_rfl)
          refine ⟨_, rfl, rfl, ?_⟩; unfold yields; go_simp
          exact ⟨rfl, HGG.out, Fr.refl _ _⟩
        | 7, _ =>
          have d6 := hd 6 (by kernel_rfl); have x6 := hev.dep 6 52 (by kernel_rfl) (by kernel_rfl); simp only [GzV] at d6
          rw [d6] at x6
          have hp := HGG.out.blk HOB.out (fun x => x)
          have y1 := hp.cell 1
          simp only [List.getElem?_toArray, List.getElem?_cons_zero, List.getElem?_cons_succ] at y1
          have pl := hp.lt
          clear hp
          refine ⟨_, rfl, rfl, ?_⟩; unfold yields; go_simp
          exact ⟨rfl, HGG.out, Fr.refl _ _⟩
        | 8, _ =>
          have d7 := hd 7 (by kernel_rfl); have x7 := hev.dep 7 53 (by kernel_rfl) (by kernel_rfl); simp only [GzV] at d7
          rw [d7] at x7
          refine ⟨_, rfl, rfl, ?_⟩; unfold yields; go_simp
          refine (clone_int W _ el.length ec B (ints el) (HRE.out.keep fun q hq => HGG.out.cell (by have := HBX.out; omega) (fun x => x)) (ints_one _) (by have := HEL.out; omega)).mono ?_
          rintro e w5 ⟨v5, rfl, ho, hg5⟩
          exact ⟨_, rfl, owns_mono ho hzW, HGG.out.trans hg5, hg5⟩
        | 9, _ =>
          have d0 := hd 0 (by kernel_rfl); have x0 := hev.dep 0 46 (by kernel_rfl) (by kernel_rfl); simp only [GzV] at d0
          rw [d0] at x0
          have d2 := hd 2 (by kernel_rfl); have x2 := hev.dep 2 48 (by kernel_rfl) (by kernel_rfl); simp only [GzV] at d2
          have d5 := hd 5 (by kernel_rfl); have x5 := hev.dep 5 51 (by kernel_rfl) (by kernel_rfl); simp only [GzV] at d5
          have d8 := hd 8 (by kernel_rfl); have x8 := hev.dep 8 54 (by kernel_rfl) (by kernel_rfl); simp only [GzV] at d8
          obtain ⟨Au, cu, e2, _⟩ := owns_form d2
          obtain ⟨At, ct, e5, _⟩ := owns_form d5
          obtain ⟨Ae, ce, e8, _⟩ := owns_form d8
          rw [e2] at x2 d2
          rw [e5] at x5 d5
          rw [e8] at x8 d8
          refine ⟨_, rfl, rfl, ?_⟩; unfold yields; go_simp
          exact ⟨⟨_, _, _, rfl, d2, d5, d8⟩, HGG.out, Fr.refl _ _⟩
        | i + 10, hi => exact absurd hi (by simp)
      · intro val W hG hV
        obtain ⟨vu, vt, ve, e9, h1, h2, h3⟩ := hV 9 (by decide)
        obtain ⟨Au, cu, rfl, _⟩ := owns_form h1
        obtain ⟨At, ct, rfl, _⟩ := owns_form h2
        obtain ⟨Ae, ce, rfl, _⟩ := owns_form h3
        have hzb := hG.blk HZB.out (fun x => x)
        have y0 := hzb.cell 0
        have y1 := hzb.cell 1
        have y2 := hzb.cell 2
        have y3 := hzb.cell 3
        simp only [List.getElem?_toArray, List.getElem?_cons_zero, List.getElem?_cons_succ] at y0 y1 y2 y3
        have yf := hzb.frozen
        have yl := hzb.lt
        have hgw : Grow w W := (Fr.of_below HWR.out (fun k hk _ => hk)).trans hG
        obtain ⟨q0, hq0⟩ : ∃ q, q = (W.setCell ⟨w.heap.size + 1 + 1, 0, none⟩ (.slice (some ⟨g, 0, none⟩) n n)) := ⟨_, rfl⟩
        obtain ⟨q1, hq1⟩ : ∃ q, q = (q0.setCell ⟨w.heap.size + 1 + 1, 1, none⟩ (.slice Au n cu)) := ⟨_, rfl⟩
        obtain ⟨q2, hq2⟩ : ∃ q, q = (q1.setCell ⟨w.heap.size + 1 + 1, 2, none⟩ (.slice At n ct)) := ⟨_, rfl⟩
        obtain ⟨q3, hq3⟩ : ∃ q, q = (q2.setCell ⟨w.heap.size + 1 + 1, 3, none⟩ (.slice Ae el.length ce)) := ⟨_, rfl⟩
        have b0 := hzb
        have b1 := b0.set_ 0 (.slice (some ⟨g, 0, none⟩) n n)
        rw [← hq0] at b1
        have b2 := b1.set_ 1 (.slice Au n cu)
        rw [← hq1] at b2
        have b3 := b2.set_ 2 (.slice At n ct)
        rw [← hq2] at b3
        have b4 := b3.set_ 3 (.slice Ae el.length ce)
        rw [← hq3] at b4
        have keep : ∀ {base size m : Nat} {t : TypeId} {v : Value} {xs : List Value}, W.ownsRow base t size v m xs → 47 ≠ t → q3.ownsRow base t size v m xs := fun h ht => by
          have r0 := owns_box h b0 ht 0 (.slice (some ⟨g, 0, none⟩) n n)
          rw [← hq0] at r0
          have r1 := owns_box r0 b1 ht 1 (.slice Au n cu)
          rw [← hq1] at r1
          have r2 := owns_box r1 b2 ht 2 (.slice At n ct)
          rw [← hq2] at r2
          have r3 := owns_box r2 b3 ht 3 (.slice Ae el.length ce)
          rw [← hq3] at r3
          exact r3
        have hww : w.heap.size ≤ wr.heap.size := HWR.out.size
        have HO := Lib.hid (show ZnOwn w.heap.size q3 ⟨P, P, List.replicate n 0, el⟩ (.slice (some ⟨g, 0, none⟩) n n) (.slice Au n cu) (.slice At n ct) (.slice Ae el.length ce) from
          ⟨by rw [HPL.out]; exact keep (owns_grow HOW.out hG) (by decide), by rw [HPL.out]; exact keep (owns_mono h1 hww) (by decide), by rw [List.length_replicate]; exact keep (owns_mono h2 hww) (by decide), keep (owns_mono h3 hww) (by decide)⟩)
        have HGQ : Hid (Grow w q3) := Lib.hid (by rw [hq3, hq2, hq1, hq0]; exact (((hgw.setCell (.inr (show w.heap.size ≤ w.heap.size + 1 + 1 by omega)) _).setCell (.inr (show w.heap.size ≤ w.heap.size + 1 + 1 by omega)) _).setCell (.inr (show w.heap.size ≤ w.heap.size + 1 + 1 by omega)) _).setCell (.inr (show w.heap.size ≤ w.heap.size + 1 + 1 by omega)) _)
        have z0 := b4.cell 0
        have z1 := b4.cell 1
        have z2 := b4.cell 2
        have z3 := b4.cell 3
        simp only [List.getElem?_toArray, List.getElem?_cons_zero, List.getElem?_cons_succ, List.setIfInBounds_toArray, List.set_cons_zero, List.set_cons_succ] at z0 z1 z2 z3
        have zl := b4.lt
        clear hV hG h1 h2 h3 hzb hgw b0 b1 b2 b3 b4 keep hww
        unfold wpOp
        change (if _ then _ else _)
        rw [if_pos (by kernel_rfl)]
        refine .inl ?_
        simp only [fillA, dstOf, List.getElem?_toArray, List.getElem?_cons_zero, List.getElem?_cons_succ, Option.bind_some, e9]
        go_simp
        rw [← hq0, ← hq1, ← hq2, ← hq3]
        clear y0 y1 y2 y3 yf yl hq0 hq1 hq2 hq3
        go_wp2
        refine bodyPost_ret (v := .agg #[.slice (some ⟨g, 0, none⟩) n n, .slice Au n cu, .slice At n ct, .slice Ae el.length ce]) (by simp [results, Try.results11, go_sem, z0, z1, z2, z3]) rfl ?_
        refine ⟨_, _, _, _, rfl, ?_, HGQ.out⟩
        unfold gzn
        rw [← HP2.out, ← HN.out]
        exact HO.out
end Go.Proofs.Ytnalbkjbidaojaa
