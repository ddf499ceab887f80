/- GridZone: for every outline, numbers, and choice it returns true. -/
import Derived.Test.YtnalbkjbidaojaaGzB
import Derived.Test.YtnalbkjbidaojaaGzD
import Derived.Test.YtnalbkjbidaojaaGzE
import Derived.Test.YtnalbkjbidaojaaGzF
import Derived.Test.YtnalbkjbidaojaaGridSteps
namespace Go.Proofs.Ytnalbkjbidaojaa
open Go.RowKit Mc

theorem ZnOwn.at_ {B : Nat} {W : World} {z : Zn} {A1 A2 A3 A4 : Option Addr} {c1 c2 c3 c4 : Nat} (h : ZnOwn B W z (.slice A1 z.org.length c1) (.slice A2 z.cur.length c2) (.slice A3 z.touch.length c3) (.slice A4 z.ends.length c4)) : ZnAt W W.heap.size z A1 A2 A3 A4 :=
  ⟨Reads.of_own h.1, Reads.of_own h.2.1, Reads.of_own h.2.2.1, Reads.of_own h.2.2.2⟩
theorem ZnOwn.grow {B : Nat} {W W' : World} {z : Zn} {a b c d : Value} (h : ZnOwn B W z a b c d) (hg : Grow W W') : ZnOwn B W' z a b c d := ⟨owns_grow h.1 hg, owns_grow h.2.1 hg, owns_grow h.2.2.1 hg, owns_grow h.2.2.2 hg⟩
theorem PgOwn.grow {B : Nat} {W W' : World} {p : Pg} {a b c : Value} (h : PgOwn B W p a b c) (hg : Grow W W') : PgOwn B W' p a b c := ⟨h.1.below (Grow.below hg (Nat.le_refl _)) (Nat.le_refl _), owns_grow h.2.1 hg, owns_grow h.2.2 hg⟩
theorem gzn_ok (u s : Int) (pl : List (Int × Int × Bool)) (el : List Int) (h1 : pl.length ≤ 40) (h2 : el.length ≤ 40) : ZnOk (gzn u s pl el) := ⟨by simp [gzn]; omega, by simp [gzn]; omega, by simp [gzn]; omega, by simp [gzn]; omega⟩
/-- two zones that are the same -/
theorem rzones_same (z : Zn) (w : World) (a b c d a' b' c' d' : Value) (h : ZnOwn 0 w z a b c d) (h' : ZnOwn 0 w z a' b' c' d') (hz : ZnOk z) :
    Calls Try.prog 13 #[.agg #[a, b, c, d], .agg #[a', b', c', d']] w fun e w' => e = .returned (.bool true) ∧ Grow w w' := by
  obtain ⟨A1, c1, rfl, _⟩ := owns_form h.1
  obtain ⟨A2, c2, rfl, _⟩ := owns_form h.2.1
  obtain ⟨A3, c3, rfl, _⟩ := owns_form h.2.2.1
  obtain ⟨A4, c4, rfl, _⟩ := owns_form h.2.2.2
  obtain ⟨B1, d1, rfl, _⟩ := owns_form h'.1
  obtain ⟨B2, d2, rfl, _⟩ := owns_form h'.2.1
  obtain ⟨B3, d3, rfl, _⟩ := owns_form h'.2.2.1
  obtain ⟨B4, d4, rfl, _⟩ := owns_form h'.2.2.2
  exact (rsameZone_any z z w.heap.size A1 A2 A3 A4 B1 B2 B3 B4 c1 c2 c3 c4 d1 d2 d3 d4 w (Nat.le_refl _) h.at_ h'.at_ hz hz).mono fun e w' k => ⟨by rw [k.1]; simp, k.2⟩
theorem ZnOwn.mono {B B' : Nat} {W : World} {z : Zn} {a b c d : Value} (h : ZnOwn B W z a b c d) (hb : B' ≤ B) : ZnOwn B' W z a b c d := ⟨owns_mono h.1 hb, owns_mono h.2.1 hb, owns_mono h.2.2.1 hb, owns_mono h.2.2.2 hb⟩
/-- two programs that are the same -/
theorem rprogs_same (p : Pg) (w : World) (B B' : Nat) (a b c a' b' c' : Value) (h : PgOwn B w p a b c) (h' : PgOwn B' w p a' b' c') (h1 : p.funcs.length ≤ 1000000) (h2 : p.main.length ≤ 1000000) (h3 : p.cvt.length ≤ 1000000) (h4 : ∀ l ∈ p.funcs, l.length ≤ 1000000) :
    Calls Try.prog 15 #[.agg #[a, b, c, .int .i64 p.size], .agg #[a', b', c', .int .i64 p.size]] w fun e w' => e = .returned (.bool true) ∧ Grow w w' := by
  obtain ⟨A1, c1, rfl, _, _, r1⟩ := h.1.form
  obtain ⟨A2, c2, rfl, _⟩ := owns_form h.2.1
  obtain ⟨A3, c3, rfl, _⟩ := owns_form h.2.2
  obtain ⟨B1, d1, rfl, _, _, r2⟩ := h'.1.form
  obtain ⟨B2, d2, rfl, _⟩ := owns_form h'.2.1
  obtain ⟨B3, d3, rfl, _⟩ := owns_form h'.2.2
  exact rsameprog_true B B' w w.heap.size (Nat.le_refl _) p.funcs p.main p.cvt p.size A1 A2 A3 B1 B2 B3 c1 c2 c3 d1 d2 d3 r1 r2 (Reads.of_own h.2.1) (Reads.of_own h'.2.1) (Reads.of_own h.2.2) (Reads.of_own h'.2.2) h1 h2 h3 h4

section
variable (unit size : Int) (f1 f2 f3 f4 f5 f6 f7 f8 : Value) (base base' : Nat) (W : World) (pn en : Nat) (pl : List (Int × Int × Bool)) (el : List Int) (vp ve : Value)
theorem gzone_own (hn : pn = pl.length ∧ en = el.length) (h1 : W.ownsRow base 61 3 vp pn (opts pl)) (h2 : W.ownsRow base' 3 1 ve en (ints el)) (hl : pn ≤ 40 ∧ en ≤ 40)
    (hi : ∀ p ∈ pl, (-9223372036854775808 ≤ p.1 ∧ p.1 ≤ 9223372036854775807) ∧ (-9223372036854775808 ≤ p.2.1 ∧ p.2.1 ≤ 9223372036854775807)) (hu : -9223372036854775808 ≤ unit ∧ unit ≤ 9223372036854775807) :
    Calls Try.prog 11 #[.agg #[.int .i64 unit, f1, f2, f3, f4, f5, f6, f7, f8], .agg #[vp, ve], .int .i64 size] W (ZnPost W (gzn unit size pl el)) := by
  obtain ⟨rfl, rfl⟩ := hn
  obtain ⟨Ap, kp, rfl, _⟩ := owns_form h1
  obtain ⟨Ae, ke, rfl, _⟩ := owns_form h2
  exact gzone_any unit size f1 f2 f3 f4 f5 f6 f7 f8 Ap Ae kp ke W.heap.size pl el W (Reads.of_own h1) (Reads.of_own h2) (Nat.le_refl _) (by omega) (by omega) hi hu
theorem rgzone_own (hn : pn = pl.length ∧ en = el.length) (h1 : W.ownsRow base 61 3 vp pn (opts pl)) (h2 : W.ownsRow base' 3 1 ve en (ints el)) (hl : pn ≤ 40 ∧ en ≤ 40)
    (hi : ∀ p ∈ pl, (-9223372036854775808 ≤ p.1 ∧ p.1 ≤ 9223372036854775807) ∧ (-9223372036854775808 ≤ p.2.1 ∧ p.2.1 ≤ 9223372036854775807)) (hu : -9223372036854775808 ≤ unit ∧ unit ≤ 9223372036854775807) :
    Calls Try.prog 14 #[.agg #[.int .i64 unit, f1, f2, f3, f4, f5, f6, f7, f8], .agg #[vp, ve], .int .i64 size] W (ZnPost W (gzn unit size pl el)) := by
  obtain ⟨rfl, rfl⟩ := hn
  obtain ⟨Ap, kp, rfl, _⟩ := owns_form h1
  obtain ⟨Ae, ke, rfl, _⟩ := owns_form h2
  exact rgzone_any unit size f1 f2 f3 f4 f5 f6 f7 f8 Ap Ae kp ke W.heap.size pl el W (Reads.of_own h1) (Reads.of_own h2) (Nat.le_refl _) (by omega) (by omega) hi hu
end
section
variable (N0 : Nat) (unit size glyph : Int) (f2 f3 f4 f5 f6 : Value) (gA fA cA : Option Addr) (gc fc cc B : Nat) (gl : List GlyD) (fl : List (List (Int × Int))) (cl : List Int) (W : World)
theorem gprog_ft (h : FtAt N0 W B gA fA cA gl fl cl) (hB : B ≤ W.heap.size) (hu : -9223372036854775808 ≤ unit ∧ unit ≤ 9223372036854775807) :
    Calls Try.prog 12 #[.agg #[.int .i64 unit, .slice gA gl.length gc, f2, f3, f4, f5, f6, .slice fA fl.length fc, .slice cA cl.length cc], .int .i64 glyph, .int .i64 size] W (PgPost W (gpr unit size glyph gl fl cl)) :=
  gprog_any N0 unit size glyph f2 f3 f4 f5 f6 gA fA cA gc fc cc B gl fl cl W h.gs h.fs h.cs hB (by have := h.g10; omega) (by have := h.f2; omega) (by have := h.c3; omega) (fun g hg => by have := (h.gb g hg).2; omega) (fun l hl => by have := h.fb l hl; omega) h.ci hu
theorem rgprog_ft (h : FtAt N0 W B gA fA cA gl fl cl) (hB : B ≤ W.heap.size) (hu : -9223372036854775808 ≤ unit ∧ unit ≤ 9223372036854775807) :
    Calls Try.prog 16 #[.agg #[.int .i64 unit, .slice gA gl.length gc, f2, f3, f4, f5, f6, .slice fA fl.length fc, .slice cA cl.length cc], .int .i64 glyph, .int .i64 size] W (PgPost W (gpr unit size glyph gl fl cl)) :=
  rgprog_any N0 unit size glyph f2 f3 f4 f5 f6 gA fA cA gc fc cc B gl fl cl W h.gs h.fs h.cs hB (by have := h.g10; omega) (by have := h.f2; omega) (by have := h.c3; omega) (fun g hg => by have := (h.gb g hg).2; omega) (fun l hl => by have := h.fb l hl; omega) h.ci hu
theorem gprs_same (p : Pg) (hp : p = gpr unit size glyph gl fl cl) (h : FtAt N0 W B gA fA cA gl fl cl) (w : World) (b b' : Nat) (x y z x' y' z' : Value) (k : PgOwn b w p x y z) (k' : PgOwn b' w p x' y' z') :
    Calls Try.prog 15 #[.agg #[x, y, z, .int .i64 p.size], .agg #[x', y', z', .int .i64 p.size]] w fun e w' => e = .returned (.bool true) ∧ Grow w w' := by
  subst hp
  refine rprogs_same _ w b b' x y z x' y' z' k k' ?_ ?_ ?_ ?_
  · show fl.length ≤ _; have := h.f2; omega
  · show (if 0 ≤ glyph ∧ glyph < gl.length then (gl[glyph.toNat]?.map GlyD.hint).getD [] else []).length ≤ _
    split
    · cases hg : gl[glyph.toNat]? with
      | none => simp
      | some g => have := (h.gb g (List.mem_of_getElem? hg)).2; simp only [Option.map_some, Option.getD_some]; omega
    · simp
  · show (cl.map (gsc unit size)).length ≤ _; rw [List.length_map]; have := h.c3; omega
  · intro l hl; have := h.fb l hl; omega
end

def GzT (fb ab wb zb : Nat) (F A O Z : Array Value) (w : World) : Prop := Blk w fb 42 F ∧ Blk w ab 33 A ∧ Blk w wb 32 O ∧ Blk w zb 47 Z
theorem GzT.grow {fb ab wb zb : Nat} {F A O Z : Array Value} {w w' : World} (h : GzT fb ab wb zb F A O Z w) (hg : Grow w w') : GzT fb ab wb zb F A O Z w' := ⟨hg.blk h.1 (fun x => x), hg.blk h.2.1 (fun x => x), hg.blk h.2.2.1 (fun x => x), hg.blk h.2.2.2 (fun x => x)⟩
def GzU (fb ab : Nat) (F A : Array Value) (w : World) : Prop := Blk w fb 42 F ∧ Blk w ab 33 A
theorem GzU.grow {fb ab : Nat} {F A : Array Value} {w w' : World} (h : GzU fb ab F A w) (hg : Grow w w') : GzU fb ab F A w' := ⟨hg.blk h.1 (fun x => x), hg.blk h.2 (fun x => x)⟩
structure GzL (N0 fb ab : Nat) (wr : World) (F A : Array Value) (w : World) (gA fA cA : Option Addr) (gl : List GlyD) (fl : List (List (Int × Int))) (cl : List Int) : Prop where
  f : Blk wr fb 42 F
  a : Blk wr ab 33 A
  ft : FtAt N0 wr fb gA fA cA gl fl cl
  g : Grow w wr
theorem GzL.grow {N0 fb ab : Nat} {wr w' : World} {F A : Array Value} {w : World} {gA fA cA : Option Addr} {gl : List GlyD} {fl : List (List (Int × Int))} {cl : List Int} (h : GzL N0 fb ab wr F A w gA fA cA gl fl cl) (hg : Grow wr w') : GzL N0 fb ab w' F A w gA fA cA gl fl cl :=
  ⟨hg.blk h.f (fun x => x), hg.blk h.a (fun x => x), h.ft.below (Grow.below hg (by have := h.f.lt; omega)), h.g.trans hg⟩
def GzS (fb ab wb zb pb : Nat) (F A O Z P : Array Value) (w : World) : Prop := Blk w fb 42 F ∧ Blk w ab 33 A ∧ Blk w wb 32 O ∧ Blk w zb 47 Z ∧ Blk w pb 51 P
theorem GzS.grow {fb ab wb zb pb : Nat} {F A O Z P : Array Value} {w w' : World} (h : GzS fb ab wb zb pb F A O Z P w) (hg : Grow w w') : GzS fb ab wb zb pb F A O Z P w' := ⟨hg.blk h.1 (fun x => x), hg.blk h.2.1 (fun x => x), hg.blk h.2.2.1 (fun x => x), hg.blk h.2.2.2.1 (fun x => x), hg.blk h.2.2.2.2 (fun x => x)⟩
set_option maxHeartbeats 8000000 in
set_option maxRecDepth 100000 in
theorem gridZone_walk (w : World) (pA eA A : Option Addr) (pc ec c : Nat) (pl0 : List (Int × Int × Bool)) (el0 xs : List Int) (k0 k1 k2 : Int)
    (hp : Reads w w.heap.size 3 pA pl0.length (opts pl0)) (he : Reads w w.heap.size 1 eA el0.length (ints el0)) (hx : Reads w w.heap.size 1 A xs.length (ints xs))
    (hpl : pl0.length ≤ maxLen) (hel : el0.length ≤ maxLen) (hxl : xs.length ≤ maxLen) (hpc : pl0.length ≤ pc) (hec : el0.length ≤ ec) (hxc : xs.length ≤ c)
    (hpi : ∀ p ∈ pl0, (-9223372036854775808 ≤ p.1 ∧ p.1 ≤ 9223372036854775807) ∧ (-9223372036854775808 ≤ p.2.1 ∧ p.2.1 ≤ 9223372036854775807)) (hxi : ∀ x ∈ xs, I64 x) (hk : -9223372036854775808 ≤ k2 ∧ k2 ≤ 9223372036854775807) :
    Calls Try.prog 5 #[.agg #[.slice pA pl0.length pc, .slice eA el0.length ec], .slice A xs.length c, .agg #[.int .i64 k0, .int .i64 k1, .int .i64 k2]] w fun e w' => e = .returned (.bool true) ∧ Below w.heap.size w w' := by
  obtain ⟨X, hX⟩ : ∃ X, X = (w.alloc (.cells #[.slice pA pl0.length pc, .slice eA el0.length ec] 32)).alloc (.cells #[.int .i64 k0, .int .i64 k1, .int .i64 k2] 33) := ⟨_, rfl⟩
  have hXw : Grow w X := by rw [hX]; exact ((Fr.refl _ w).alloc _).alloc _
  have hb0 : Blk X w.heap.size 32 #[.slice pA pl0.length pc, .slice eA el0.length ec] := by rw [hX]; exact (Blk.new _ _ _).alloc _
  have hb1 : Blk X (w.heap.size + 1) 33 #[.int .i64 k0, .int .i64 k1, .int .i64 k2] := by rw [hX]; exact Blk.new_at _ _ _ (by simp)
  have HX := Lib.hid hX
  have HXG := Lib.hid hXw
  have HB0 := Lib.hid hb0
  have HB1 := Lib.hid hb1
  have HP := Lib.hid hp
  have HE := Lib.hid he
  have HR := Lib.hid hx
  have HL := Lib.hid (And.intro (And.intro hpl hel) (And.intro hpc hec))
  have HXL := Lib.hid (And.intro hxl hxc)
  have HPI := Lib.hid hpi
  have HXI := Lib.hid hxi
  have HK := Lib.hid hk
  obtain ⟨ab, hab⟩ : ∃ ab, ab = w.heap.size + 1 := ⟨_, rfl⟩
  rw [← hab] at HB1
  clear hp he hx hpl hel hxl hpc hec hxc hpi hxi hk hX hXw hb0 hb1
  go_enter Try.func5, Try.ntmps5
  go_upto_region 1 with fail
  rw [← HX.out, ← hab]
  clear hab
  go_wp2_with fail
  refine (shown_any _).mono ?_
  rintro e w1 ⟨rfl, hs1⟩
  have HG1 := Lib.hid (HXG.out.trans (Fr.of_below hs1 (fun k hk _ => hk)))
  have HA1 := Lib.hid (HB1.out.below hs1 HB1.out.lt)
  have HO1 := Lib.hid (HB0.out.below hs1 HB0.out.lt)
  clear hs1 HXG HX
  have hm := gmade_any w.heap.size w1 A c xs HG1.out.size ((HR.out.below (Grow.below HG1.out (Nat.le_refl _)) (Nat.le_refl _)).more HG1.out.size) HXI.out HXL.out.1 HXL.out.2
  have HM := Lib.hid hm
  clear hm
  go_wp2_with fail
  refine HM.out.mono ?_
  rintro e w2 ⟨u, gA, fA, cA, A4, A5, A6, A7, A8, gc, fc, cc, m4, m5, m6, m7, m8, c4, c5, c6, c7, c8, gl, fl, cl, rfl, hu, hft, hb2⟩
  have hg2 : Grow w1 w2 := Fr.of_below hb2 (fun k hk _ => hk)
  have HU := Lib.hid (show -9223372036854775808 ≤ u ∧ u ≤ 9223372036854775807 from hu)
  clear hu hb2 HM
  go_upto_region 3 with fail
  obtain ⟨fb, hfb⟩ : ∃ fb, fb = w2.heap.size := ⟨_, rfl⟩
  have hgr : Grow w2 (w2.alloc (.cells #[.int .i64 u, .slice gA gl.length gc, .slice A4 m4 c4, .slice A5 m5 c5, .slice A6 m6 c6, .slice A7 m7 c7, .slice A8 m8 c8, .slice fA fl.length fc, .slice cA cl.length cc] 42)) := (Fr.refl _ _).alloc _
  have hbf : Blk (w2.alloc (.cells #[.int .i64 u, .slice gA gl.length gc, .slice A4 m4 c4, .slice A5 m5 c5, .slice A6 m6 c6, .slice A7 m7 c7, .slice A8 m8 c8, .slice fA fl.length fc, .slice cA cl.length cc] 42)) w2.heap.size 42 #[.int .i64 u, .slice gA gl.length gc, .slice A4 m4 c4, .slice A5 m5 c5, .slice A6 m6 c6, .slice A7 m7 c7, .slice A8 m8 c8, .slice fA fl.length fc, .slice cA cl.length cc] := Blk.new _ _ _
  generalize w2.alloc (.cells #[.int .i64 u, .slice gA gl.length gc, .slice A4 m4 c4, .slice A5 m5 c5, .slice A6 m6 c6, .slice A7 m7 c7, .slice A8 m8 c8, .slice fA fl.length fc, .slice cA cl.length cc] 42) = W2 at *
  rw [← hfb] at hbf hft ⊢
  have HFT := Lib.hid (hft.below (Grow.below hgr (by omega)))
  have HF := Lib.hid hbf
  have HG2 := Lib.hid ((HG1.out.trans hg2).trans hgr)
  have HA := Lib.hid ((hg2.trans hgr).blk HA1.out (fun x => x))
  have HO := Lib.hid ((hg2.trans hgr).blk HO1.out (fun x => x))
  have HFBL := Lib.hid (show w.heap.size ≤ fb by have := HG1.out.size; have := hg2.size; omega)
  clear hg2 hgr hbf hfb hft HA1 HO1 HG1 HB0 HB1 HR HXI HXL
  have x0 := HO.out.cell 0
  have x1 := HO.out.cell 1
  simp only [List.getElem?_toArray, List.getElem?_cons_zero, List.getElem?_cons_succ] at x0 x1
  have xl := HO.out.lt
  have HC := Lib.hid (gfew_any W2 w.heap.size HG2.out.size pA eA pc ec pl0 el0 (HP.out.below (Grow.below HG2.out (Nat.le_refl _)) (Nat.le_refl _)) (HE.out.below (Grow.below HG2.out (Nat.le_refl _)) (Nat.le_refl _)) HL.out.1.1 HL.out.1.2 HL.out.2.1 HL.out.2.2)
  have HPI2 := Lib.hid (fun p (h : p ∈ pl0.take 40) => HPI.out p (List.mem_of_mem_take h))
  have HLN := Lib.hid (And.intro (show (pl0.take 40).length ≤ 40 by rw [List.length_take]; omega) (show (el0.take 40).length ≤ 40 by rw [List.length_take]; omega))
  generalize pl0.take 40 = pl at *
  generalize el0.take 40 = el at *
  go_wp2_with fail
  refine HC.out.mono ?_
  rintro e w3 ⟨vp, ve, rfl, ho1, ho2, hg3⟩
  obtain ⟨Ap, kp, rfl, _⟩ := owns_form ho1
  obtain ⟨Ae, ke, rfl, _⟩ := owns_form ho2
  clear x0 x1 xl HC HPI HL HP HE
  obtain ⟨pn, hpn⟩ : ∃ n, n = pl.length := ⟨_, rfl⟩
  obtain ⟨en, hen⟩ : ∃ n, n = el.length := ⟨_, rfl⟩
  rw [← hpn] at ho1 HLN ⊢
  rw [← hen] at ho2 HLN ⊢
  have HNN := Lib.hid (And.intro hpn hen)
  clear hpn hen
  go_upto_region 4 with fail
  obtain ⟨wb, hwb⟩ : ∃ wb, wb = w3.heap.size := ⟨_, rfl⟩
  have hgr : Grow w3 (w3.alloc (.cells #[.slice Ap pn kp, .slice Ae en ke] 32)) := (Fr.refl _ _).alloc _
  have hbo : Blk (w3.alloc (.cells #[.slice Ap pn kp, .slice Ae en ke] 32)) w3.heap.size 32 #[.slice Ap pn kp, .slice Ae en ke] := Blk.new _ _ _
  generalize w3.alloc (.cells #[.slice Ap pn kp, .slice Ae en ke] 32) = W3 at *
  rw [← hwb] at hbo ⊢
  have hgg := hg3.trans hgr
  have hfl := HF.out.lt
  have HOP3 := Lib.hid (owns_grow ho1 hgr)
  have HOE3 := Lib.hid (owns_grow ho2 hgr)
  have HWO3 := Lib.hid hbo
  have HF3 := Lib.hid (hgg.blk HF.out (fun x => x))
  have HA3 := Lib.hid (hgg.blk HA.out (fun x => x))
  have HFT3 := Lib.hid (HFT.out.below (Grow.below hgg (by omega)))
  have HG3 := Lib.hid (HG2.out.trans hgg)
  clear hg3 hgr hbo hwb hgg hfl ho1 ho2 HF HA HO HFT HG2
  have y0 := HF3.out.cell 0
  have y1 := HF3.out.cell 1
  have y2 := HF3.out.cell 2
  have y3 := HF3.out.cell 3
  have y4 := HF3.out.cell 4
  have y5 := HF3.out.cell 5
  have y6 := HF3.out.cell 6
  have y7 := HF3.out.cell 7
  have y8 := HF3.out.cell 8
  simp only [List.getElem?_toArray, List.getElem?_cons_zero, List.getElem?_cons_succ] at y0 y1 y2 y3 y4 y5 y6 y7 y8
  have yl := HF3.out.lt
  have x0 := HWO3.out.cell 0
  have x1 := HWO3.out.cell 1
  simp only [List.getElem?_toArray, List.getElem?_cons_zero, List.getElem?_cons_succ] at x0 x1
  have xl := HWO3.out.lt
  have z0 := HA3.out.cell 0
  have z1 := HA3.out.cell 1
  have z2 := HA3.out.cell 2
  simp only [List.getElem?_toArray, List.getElem?_cons_zero, List.getElem?_cons_succ] at z0 z1 z2
  have zl := HA3.out.lt
  have HC := Lib.hid (gzone_own u k1 (.slice gA gl.length gc) (.slice A4 m4 c4) (.slice A5 m5 c5) (.slice A6 m6 c6) (.slice A7 m7 c7) (.slice A8 m8 c8) (.slice fA fl.length fc) (.slice cA cl.length cc) W2.heap.size W2.heap.size W3 pn en pl el _ _ HNN.out HOP3.out HOE3.out HLN.out HPI2.out HU.out)
  go_wp2_with fail
  refine HC.out.mono ?_
  rintro e w4 ⟨og, cu, tq, en', rfl, hzo, hg4⟩
  obtain ⟨Z1, z1c, rfl, _⟩ := owns_form hzo.1
  obtain ⟨Z2, z2c, rfl, _⟩ := owns_form hzo.2.1
  obtain ⟨Z3, z3c, rfl, _⟩ := owns_form hzo.2.2.1
  obtain ⟨Z4, z4c, rfl, _⟩ := owns_form hzo.2.2.2
  obtain ⟨za, hza⟩ : ∃ z, z = gzn u k1 pl el := ⟨_, rfl⟩
  rw [← hza] at hzo ⊢
  have HZA := Lib.hid hza
  clear y0 y1 y2 y3 y4 y5 y6 y7 y8 yl
  clear x0 x1 xl
  clear z0 z1 z2 zl
  clear HC hza
  go_upto_region 5 with fail
  have hgr : Grow w4 (w4.alloc (.cells #[.slice Z1 za.org.length z1c, .slice Z2 za.cur.length z2c, .slice Z3 za.touch.length z3c, .slice Z4 za.ends.length z4c] 47)) := (Fr.refl _ _).alloc _
  have hbz : Blk (w4.alloc (.cells #[.slice Z1 za.org.length z1c, .slice Z2 za.cur.length z2c, .slice Z3 za.touch.length z3c, .slice Z4 za.ends.length z4c] 47)) w4.heap.size 47 #[.slice Z1 za.org.length z1c, .slice Z2 za.cur.length z2c, .slice Z3 za.touch.length z3c, .slice Z4 za.ends.length z4c] := Blk.new _ _ _
  generalize w4.alloc (.cells #[.slice Z1 za.org.length z1c, .slice Z2 za.cur.length z2c, .slice Z3 za.touch.length z3c, .slice Z4 za.ends.length z4c] 47) = W4 at *
  obtain ⟨zb, hzb⟩ : ∃ zb, zb = w4.heap.size := ⟨_, rfl⟩
  rw [← hzb] at hbz ⊢
  have hgk := hg4.trans hgr
  have hfl := HF3.out.lt
  have HF4 := Lib.hid (hgk.blk HF3.out (fun x => x))
  have HA4 := Lib.hid (hgk.blk HA3.out (fun x => x))
  have HWO4 := Lib.hid (hgk.blk HWO3.out (fun x => x))
  have HOP4 := Lib.hid (owns_grow HOP3.out hgk)
  have HOE4 := Lib.hid (owns_grow HOE3.out hgk)
  have HFT4 := Lib.hid (HFT3.out.below (Grow.below hgk (by omega)))
  have HG4 := Lib.hid (HG3.out.trans hgk)
  have HZB4 := Lib.hid (hbz)
  have HZO4 := Lib.hid ((hzo.grow hgr).mono (Nat.zero_le _))
  clear hgk hfl HF3 HA3 HFT3 HWO3 HOP3 HOE3 HG3
  clear hg4 hgr hbz hzb hzo
  have y0 := HF4.out.cell 0
  have y1 := HF4.out.cell 1
  have y2 := HF4.out.cell 2
  have y3 := HF4.out.cell 3
  have y4 := HF4.out.cell 4
  have y5 := HF4.out.cell 5
  have y6 := HF4.out.cell 6
  have y7 := HF4.out.cell 7
  have y8 := HF4.out.cell 8
  simp only [List.getElem?_toArray, List.getElem?_cons_zero, List.getElem?_cons_succ] at y0 y1 y2 y3 y4 y5 y6 y7 y8
  have yl := HF4.out.lt
  have z0 := HA4.out.cell 0
  have z1 := HA4.out.cell 1
  have z2 := HA4.out.cell 2
  simp only [List.getElem?_toArray, List.getElem?_cons_zero, List.getElem?_cons_succ] at z0 z1 z2
  have zl := HA4.out.lt
  have HC := Lib.hid (gprog_ft w.heap.size u k1 k0 (.slice A4 m4 c4) (.slice A5 m5 c5) (.slice A6 m6 c6) (.slice A7 m7 c7) (.slice A8 m8 c8) gA fA cA gc fc cc fb gl fl cl W4 HFT4.out (by have := HF4.out.lt; omega) HU.out)
  obtain ⟨pg, hpg⟩ : ∃ p, p = gpr u k1 k0 gl fl cl := ⟨_, rfl⟩
  have hps : pg.size = k1 := by rw [hpg]; rfl
  have HPG := Lib.hid (And.intro hpg hps)
  rw [← hpg] at HC
  clear hpg hps
  go_wp2_with fail
  refine HC.out.mono ?_
  rintro e w5 ⟨vf, vm, vc, rfl, hpo, hg5⟩
  rw [HPG.out.2]
  obtain ⟨P1, p1c, rfl, _⟩ := hpo.1.form
  obtain ⟨P2, p2c, rfl, _⟩ := owns_form hpo.2.1
  obtain ⟨P3, p3c, rfl, _⟩ := owns_form hpo.2.2
  clear y0 y1 y2 y3 y4 y5 y6 y7 y8 yl
  clear z0 z1 z2 zl
  clear HC
  go_upto_region 6 with fail
  have hgr : Grow w5 (w5.alloc (.cells #[.slice P1 pg.funcs.length p1c, .slice P2 pg.main.length p2c, .slice P3 pg.cvt.length p3c, .int .i64 k1] 51)) := (Fr.refl _ _).alloc _
  have hbp : Blk (w5.alloc (.cells #[.slice P1 pg.funcs.length p1c, .slice P2 pg.main.length p2c, .slice P3 pg.cvt.length p3c, .int .i64 k1] 51)) w5.heap.size 51 #[.slice P1 pg.funcs.length p1c, .slice P2 pg.main.length p2c, .slice P3 pg.cvt.length p3c, .int .i64 k1] := Blk.new _ _ _
  generalize w5.alloc (.cells #[.slice P1 pg.funcs.length p1c, .slice P2 pg.main.length p2c, .slice P3 pg.cvt.length p3c, .int .i64 k1] 51) = W5 at *
  obtain ⟨pb, hpb⟩ : ∃ pb, pb = w5.heap.size := ⟨_, rfl⟩
  rw [← hpb] at hbp ⊢
  have hgk := hg5.trans hgr
  have hfl := HF4.out.lt
  have HF5 := Lib.hid (hgk.blk HF4.out (fun x => x))
  have HA5 := Lib.hid (hgk.blk HA4.out (fun x => x))
  have HWO5 := Lib.hid (hgk.blk HWO4.out (fun x => x))
  have HOP5 := Lib.hid (owns_grow HOP4.out hgk)
  have HOE5 := Lib.hid (owns_grow HOE4.out hgk)
  have HFT5 := Lib.hid (HFT4.out.below (Grow.below hgk (by omega)))
  have HG5 := Lib.hid (HG4.out.trans hgk)
  have HZB5 := Lib.hid (hgk.blk HZB4.out (fun x => x))
  have HZO5 := Lib.hid (HZO4.out.grow hgk)
  have HPB5 := Lib.hid (hbp)
  have HPO5 := Lib.hid (hpo.grow hgr)
  clear hgk hfl HF4 HA4 HFT4 HWO4 HOP4 HOE4 HG4
  clear hg5 hgr hbp hpb hpo HZB4 HZO4
  have HS := Lib.hid (show (GzS fb ab wb zb pb #[.int .i64 u, .slice gA gl.length gc, .slice A4 m4 c4, .slice A5 m5 c5, .slice A6 m6 c6, .slice A7 m7 c7, .slice A8 m8 c8, .slice fA fl.length fc, .slice cA cl.length cc] #[.int .i64 k0, .int .i64 k1, .int .i64 k2] #[.slice Ap pn kp, .slice Ae en ke] #[.slice Z1 za.org.length z1c, .slice Z2 za.cur.length z2c, .slice Z3 za.touch.length z3c, .slice Z4 za.ends.length z4c] #[.slice P1 pg.funcs.length p1c, .slice P2 pg.main.length p2c, .slice P3 pg.cvt.length p3c, .int .i64 k1]) W5.drew from ⟨HF5.out.drew, HA5.out.drew, HWO5.out.drew, HZB5.out.drew, HPB5.out.drew⟩)
  have HD := Lib.hid (show Grow W5 W5.drew from (Fr.refl _ _).drew)
  refine wp_region_seqT (fun i => !([5, 6, 14, 15] : List Nat).contains i) (fun i => ([0, 1, 2, 4, 8, 9, 11, 13] : List Nat).contains i) (fun i => ([5, 14] : List Nat).contains i) [0, 1, 2, 3, 4, 5, 6, 7, 8, 9, 10, 11, 12, 13, 14, 15, 16, 17] (GzS fb ab wb zb pb #[.int .i64 u, .slice gA gl.length gc, .slice A4 m4 c4, .slice A5 m5 c5, .slice A6 m6 c6, .slice A7 m7 c7, .slice A8 m8 c8, .slice fA fl.length fc, .slice cA cl.length cc] #[.int .i64 k0, .int .i64 k1, .int .i64 k2] #[.slice Ap pn kp, .slice Ae en ke] #[.slice Z1 za.org.length z1c, .slice Z2 za.cur.length z2c, .slice Z3 za.touch.length z3c, .slice Z4 za.ends.length z4c] #[.slice P1 pg.funcs.length p1c, .slice P2 pg.main.length p2c, .slice P3 pg.cvt.length p3c, .int .i64 k1]) (by kernel_rfl) (by kernel_rfl) (by kernel_rfl) (by kernel_rfl) ?_
  refine wpSeq_load (v := _) rfl rfl (by kernel_rfl) (fun _ _ _ h => h) HS.out rfl (fun wq hq => by have hk := (hq).2.2.2.1; have q0 := hk.cell 0; have q1 := hk.cell 1; have q2 := hk.cell 2; have q3 := hk.cell 3; simp only [List.getElem?_toArray, List.getElem?_cons_zero, List.getElem?_cons_succ] at q0 q1 q2 q3; have ql := hk.lt; clear hk hq; first | (go_simp; done) | (go_simp; rfl)) ?_
  refine wpSeq_load (v := _) rfl rfl (by kernel_rfl) (fun _ _ _ h => h) HS.out rfl (fun wq hq => by have hk := (hq).1; have q0 := hk.cell 0; have q1 := hk.cell 1; have q2 := hk.cell 2; have q3 := hk.cell 3; have q4 := hk.cell 4; have q5 := hk.cell 5; have q6 := hk.cell 6; have q7 := hk.cell 7; have q8 := hk.cell 8; simp only [List.getElem?_toArray, List.getElem?_cons_zero, List.getElem?_cons_succ] at q0 q1 q2 q3 q4 q5 q6 q7 q8; have ql := hk.lt; clear hk hq; first | (go_simp; done) | (go_simp; rfl)) ?_
  refine wpSeq_load (v := _) rfl rfl (by kernel_rfl) (fun _ _ _ h => h) HS.out rfl (fun wq hq => by have hk := (hq).2.2.1; have q0 := hk.cell 0; have q1 := hk.cell 1; simp only [List.getElem?_toArray, List.getElem?_cons_zero, List.getElem?_cons_succ] at q0 q1; have ql := hk.lt; clear hk hq; first | (go_simp; done) | (go_simp; rfl)) ?_
  refine wpSeq_pure (v := _) rfl rfl rfl (by kernel_rfl) (fun _ _ _ h => h) (fun wq => by first | (go_simp; done) | (go_simp; rfl)) ?_
  refine wpSeq_load (v := _) rfl rfl (by kernel_rfl) (fun _ _ _ h => h) HS.out rfl (fun wq hq => by have hk := (hq).2.1; have q0 := hk.cell 0; have q1 := hk.cell 1; have q2 := hk.cell 2; simp only [List.getElem?_toArray, List.getElem?_cons_zero, List.getElem?_cons_succ] at q0 q1 q2; have ql := hk.lt; clear hk hq; first | (go_simp; done) | (go_simp; rfl)) ?_
  refine wpSeq_heavy rfl rfl (fun K hK => ?_); go_simp
  refine (rgzone_own u k1 (.slice gA gl.length gc) (.slice A4 m4 c4) (.slice A5 m5 c5) (.slice A6 m6 c6) (.slice A7 m7 c7) (.slice A8 m8 c8) (.slice fA fl.length fc) (.slice cA cl.length cc) W2.heap.size W2.heap.size W5.drew pn en pl el _ _ HNN.out (owns_grow HOP5.out HD.out) (owns_grow HOE5.out HD.out) HLN.out HPI2.out HU.out).mono ?_
  rintro e w6 ⟨a6, b6, c6', d6, rfl, hz6, hg6⟩
  have hS6 := HS.out.grow hg6
  refine hK _ _ (fun _ => hS6) ?_; clear hK K
  refine wpSeq_heavy rfl rfl (fun K hK => ?_); go_simp
  refine (rzones_same za w6 _ _ _ _ _ _ _ _ ((HZO5.out.grow HD.out).grow hg6) (by rw [HZA.out]; exact hz6.mono (Nat.zero_le _)) (by rw [HZA.out]; exact gzn_ok _ _ _ _ (by have := HLN.out.1; have := HNN.out.1; omega) (by have := HLN.out.2; have := HNN.out.2; omega))).mono ?_
  rintro e w7 ⟨rfl, hg7⟩
  have HS7 := Lib.hid (hS6.grow hg7)
  have HG7 := Lib.hid (HD.out.trans (hg6.trans hg7))
  clear hz6 hg6 hg7 hS6
  refine hK _ _ (fun h => by cases h) ?_; clear hK K
  refine wpSeq_pure (v := _) rfl rfl rfl (by kernel_rfl) (fun _ _ _ h => h) (fun wq => by first | (go_simp; done) | (go_simp; rfl)) ?_
  refine wpSeq_load (v := _) rfl rfl (by kernel_rfl) (fun _ _ _ h => h) HS7.out rfl (fun wq hq => by have hk := (hq).2.2.2.2; have q0 := hk.cell 0; have q1 := hk.cell 1; have q2 := hk.cell 2; have q3 := hk.cell 3; simp only [List.getElem?_toArray, List.getElem?_cons_zero, List.getElem?_cons_succ] at q0 q1 q2 q3; have ql := hk.lt; clear hk hq; first | (go_simp; done) | (go_simp; rfl)) ?_
  refine wpSeq_load (v := _) rfl rfl (by kernel_rfl) (fun _ _ _ h => h) HS7.out rfl (fun wq hq => by have hk := (hq).1; have q0 := hk.cell 0; have q1 := hk.cell 1; have q2 := hk.cell 2; have q3 := hk.cell 3; have q4 := hk.cell 4; have q5 := hk.cell 5; have q6 := hk.cell 6; have q7 := hk.cell 7; have q8 := hk.cell 8; simp only [List.getElem?_toArray, List.getElem?_cons_zero, List.getElem?_cons_succ] at q0 q1 q2 q3 q4 q5 q6 q7 q8; have ql := hk.lt; clear hk hq; first | (go_simp; done) | (go_simp; rfl)) ?_
  refine wpSeq_pure (v := _) rfl rfl rfl (by kernel_rfl) (fun _ _ _ h => h) (fun wq => by first | (go_simp; done) | (go_simp; rfl)) ?_
  refine wpSeq_load (v := _) rfl rfl (by kernel_rfl) (fun _ _ _ h => h) HS7.out rfl (fun wq hq => by have hk := (hq).2.1; have q0 := hk.cell 0; have q1 := hk.cell 1; have q2 := hk.cell 2; simp only [List.getElem?_toArray, List.getElem?_cons_zero, List.getElem?_cons_succ] at q0 q1 q2; have ql := hk.lt; clear hk hq; first | (go_simp; done) | (go_simp; rfl)) ?_
  refine wpSeq_pure (v := _) rfl rfl rfl (by kernel_rfl) (fun _ _ _ h => h) (fun wq => by first | (go_simp; done) | (go_simp; rfl)) ?_
  go_simp
  refine wpSeq_load (v := _) rfl rfl (by kernel_rfl) (fun _ _ _ h => h) HS7.out rfl (fun wq hq => by have hk := (hq).2.1; have q0 := hk.cell 0; have q1 := hk.cell 1; have q2 := hk.cell 2; simp only [List.getElem?_toArray, List.getElem?_cons_zero, List.getElem?_cons_succ] at q0 q1 q2; have ql := hk.lt; clear hk hq; first | (go_simp; done) | (go_simp; rfl)) ?_
  refine wpSeq_heavy rfl rfl (fun K hK => ?_); go_simp
  have hc := rgprog_ft w.heap.size u k1 k0 (.slice A4 m4 c4) (.slice A5 m5 c5) (.slice A6 m6 c6) (.slice A7 m7 c7) (.slice A8 m8 c8) gA fA cA gc fc cc fb gl fl cl w7 (HFT5.out.below (Grow.below HG7.out (by have := HF5.out.lt; omega))) (by have := HF5.out.lt; have := HG7.out.size; omega) HU.out
  rw [← HPG.out.1] at hc
  refine hc.mono ?_
  clear hc
  rintro e w8 ⟨a8, b8, c8', rfl, hp8, hg8⟩
  rw [HPG.out.2]
  have hS8 := HS7.out.grow hg8
  refine hK _ _ (fun _ => hS8) ?_; clear hK K
  refine wpSeq_heavy rfl rfl (fun K hK => ?_); go_simp
  have hc := gprs_same w.heap.size u k1 k0 gA fA cA fb gl fl cl W5 pg HPG.out.1 HFT5.out w8 W4.heap.size w7.heap.size _ _ _ _ _ _ ((HPO5.out.grow HG7.out).grow hg8) hp8
  rw [HPG.out.2] at hc
  refine hc.mono ?_
  clear hc
  rintro e w9 ⟨rfl, hg9⟩
  have HG9 := Lib.hid (HG7.out.trans (hg8.trans hg9))
  clear hp8 hg8 hg9 hS8
  refine hK _ _ (fun h => by cases h) ?_; clear hK K
  refine wpSeq_pure (v := _) rfl rfl rfl (by kernel_rfl) (fun _ _ _ h => h) (fun wq => by first | (go_simp; done) | (go_simp; rfl)) ?_
  refine wpSeq_pure (v := _) rfl rfl rfl (by kernel_rfl) (fun _ _ _ h => h) (fun wq => by first | (go_simp; done) | (go_simp; rfl)) ?_
  refine wpSeq_end ?_
  have hgk := HG9.out
  have hfl := HF5.out.lt
  have HF9 := Lib.hid (hgk.blk HF5.out (fun x => x))
  have HA9 := Lib.hid (hgk.blk HA5.out (fun x => x))
  have HWO9 := Lib.hid (hgk.blk HWO5.out (fun x => x))
  have HOP9 := Lib.hid (owns_grow HOP5.out hgk)
  have HOE9 := Lib.hid (owns_grow HOE5.out hgk)
  have HFT9 := Lib.hid (HFT5.out.below (Grow.below hgk (by omega)))
  have HG9 := Lib.hid (HG5.out.trans hgk)
  clear hgk hfl HF5 HA5 HFT5 HWO5 HOP5 HOE5 HG5
  clear HZB5 HZO5 HPB5 HPO5 HS HD HS7 HG7 HZA HPG
  generalize w9 = W9 at *
  have y0 := HF9.out.cell 0
  have y1 := HF9.out.cell 1
  have y2 := HF9.out.cell 2
  have y3 := HF9.out.cell 3
  have y4 := HF9.out.cell 4
  have y5 := HF9.out.cell 5
  have y6 := HF9.out.cell 6
  have y7 := HF9.out.cell 7
  have y8 := HF9.out.cell 8
  simp only [List.getElem?_toArray, List.getElem?_cons_zero, List.getElem?_cons_succ] at y0 y1 y2 y3 y4 y5 y6 y7 y8
  have yl := HF9.out.lt
  have z0 := HA9.out.cell 0
  have z1 := HA9.out.cell 1
  have z2 := HA9.out.cell 2
  simp only [List.getElem?_toArray, List.getElem?_cons_zero, List.getElem?_cons_succ] at z0 z1 z2
  have zl := HA9.out.lt
  have yf := HF9.out.frozen 0
  go_upto_region 8 with fail
  clear y0 y1 y2 y3 y4 y5 y6 y7 y8 yl
  clear z0 z1 z2 zl
  clear yf
  have hfa := HF9.out.ne_ HA9.out (by decide)
  have hfo := HF9.out.ne_ HWO9.out (by decide)
  have HF := Lib.hid (show Blk (W9.setCell ⟨fb, 0, none⟩ (.int .i64 k2)) fb 42 #[.int .i64 k2, .slice gA gl.length gc, .slice A4 m4 c4, .slice A5 m5 c5, .slice A6 m6 c6, .slice A7 m7 c7, .slice A8 m8 c8, .slice fA fl.length fc, .slice cA cl.length cc] by have := HF9.out.set_ 0 (.int .i64 k2); simpa using this)
  have HA := Lib.hid (HA9.out.far (p := ⟨fb, 0, none⟩) (Ne.symm hfa) (.int .i64 k2))
  have HWO := Lib.hid (HWO9.out.far (p := ⟨fb, 0, none⟩) (Ne.symm hfo) (.int .i64 k2))
  have HOP := Lib.hid (owns_box HOP9.out HF9.out (by decide) 0 (.int .i64 k2))
  have HOE := Lib.hid (owns_box HOE9.out HF9.out (by decide) 0 (.int .i64 k2))
  have HFT := Lib.hid (HFT9.out.below ((Below.refl fb W9).setCell (p := ⟨fb, 0, none⟩) (Nat.le_refl _) (.int .i64 k2)))
  have HG := Lib.hid (HG9.out.setCell (p := ⟨fb, 0, none⟩) (.inr HFBL.out) (.int .i64 k2))
  clear HF9 HA9 HWO9 HOP9 HOE9 HFT9 HG9 hfa hfo
  generalize W9.setCell ⟨fb, 0, none⟩ (.int .i64 k2) = W10 at *
  have y0 := HF.out.cell 0
  have y1 := HF.out.cell 1
  have y2 := HF.out.cell 2
  have y3 := HF.out.cell 3
  have y4 := HF.out.cell 4
  have y5 := HF.out.cell 5
  have y6 := HF.out.cell 6
  have y7 := HF.out.cell 7
  have y8 := HF.out.cell 8
  simp only [List.getElem?_toArray, List.getElem?_cons_zero, List.getElem?_cons_succ] at y0 y1 y2 y3 y4 y5 y6 y7 y8
  have yl := HF.out.lt
  have x0 := HWO.out.cell 0
  have x1 := HWO.out.cell 1
  simp only [List.getElem?_toArray, List.getElem?_cons_zero, List.getElem?_cons_succ] at x0 x1
  have xl := HWO.out.lt
  have z0 := HA.out.cell 0
  have z1 := HA.out.cell 1
  have z2 := HA.out.cell 2
  simp only [List.getElem?_toArray, List.getElem?_cons_zero, List.getElem?_cons_succ] at z0 z1 z2
  have zl := HA.out.lt
  have HC := Lib.hid (gzone_own k2 k1 (.slice gA gl.length gc) (.slice A4 m4 c4) (.slice A5 m5 c5) (.slice A6 m6 c6) (.slice A7 m7 c7) (.slice A8 m8 c8) (.slice fA fl.length fc) (.slice cA cl.length cc) W2.heap.size W2.heap.size W10 pn en pl el _ _ HNN.out HOP.out HOE.out HLN.out HPI2.out HK.out)
  go_wp2_with fail
  refine HC.out.mono ?_
  rintro e w11 ⟨og, cu, tq, en', rfl, hzo, hg4⟩
  obtain ⟨Z1, z1c, rfl, _⟩ := owns_form hzo.1
  obtain ⟨Z2, z2c, rfl, _⟩ := owns_form hzo.2.1
  obtain ⟨Z3, z3c, rfl, _⟩ := owns_form hzo.2.2.1
  obtain ⟨Z4, z4c, rfl, _⟩ := owns_form hzo.2.2.2
  obtain ⟨za, hza⟩ : ∃ z, z = gzn k2 k1 pl el := ⟨_, rfl⟩
  rw [← hza] at hzo ⊢
  have HZA := Lib.hid hza
  clear y0 y1 y2 y3 y4 y5 y6 y7 y8 yl
  clear x0 x1 xl
  clear z0 z1 z2 zl
  clear HC hza
  go_upto_region 9 with fail
  have hgr : Grow w11 (w11.alloc (.cells #[.slice Z1 za.org.length z1c, .slice Z2 za.cur.length z2c, .slice Z3 za.touch.length z3c, .slice Z4 za.ends.length z4c] 47)) := (Fr.refl _ _).alloc _
  have hbz : Blk (w11.alloc (.cells #[.slice Z1 za.org.length z1c, .slice Z2 za.cur.length z2c, .slice Z3 za.touch.length z3c, .slice Z4 za.ends.length z4c] 47)) w11.heap.size 47 #[.slice Z1 za.org.length z1c, .slice Z2 za.cur.length z2c, .slice Z3 za.touch.length z3c, .slice Z4 za.ends.length z4c] := Blk.new _ _ _
  generalize w11.alloc (.cells #[.slice Z1 za.org.length z1c, .slice Z2 za.cur.length z2c, .slice Z3 za.touch.length z3c, .slice Z4 za.ends.length z4c] 47) = W11 at *
  obtain ⟨zb2, hzb⟩ : ∃ zb, zb = w11.heap.size := ⟨_, rfl⟩
  rw [← hzb] at hbz ⊢
  have hgk := hg4.trans hgr
  have hfl := HF.out.lt
  have HF11 := Lib.hid (hgk.blk HF.out (fun x => x))
  have HA11 := Lib.hid (hgk.blk HA.out (fun x => x))
  have HWO11 := Lib.hid (hgk.blk HWO.out (fun x => x))
  have HOP11 := Lib.hid (owns_grow HOP.out hgk)
  have HOE11 := Lib.hid (owns_grow HOE.out hgk)
  have HFT11 := Lib.hid (HFT.out.below (Grow.below hgk (by omega)))
  have HG11 := Lib.hid (HG.out.trans hgk)
  have HZB11 := Lib.hid (hbz)
  have HZO11 := Lib.hid ((hzo.grow hgr).mono (Nat.zero_le _))
  clear hgk hfl HF HA HFT HWO HOP HOE HG
  clear hg4 hgr hbz hzb hzo
  have HS := Lib.hid (show (GzT fb ab wb zb2 #[.int .i64 k2, .slice gA gl.length gc, .slice A4 m4 c4, .slice A5 m5 c5, .slice A6 m6 c6, .slice A7 m7 c7, .slice A8 m8 c8, .slice fA fl.length fc, .slice cA cl.length cc] #[.int .i64 k0, .int .i64 k1, .int .i64 k2] #[.slice Ap pn kp, .slice Ae en ke] #[.slice Z1 za.org.length z1c, .slice Z2 za.cur.length z2c, .slice Z3 za.touch.length z3c, .slice Z4 za.ends.length z4c]) W11.drew from ⟨HF11.out.drew, HA11.out.drew, HWO11.out.drew, HZB11.out.drew⟩)
  have HD := Lib.hid (show Grow W11 W11.drew from (Fr.refl _ _).drew)
  refine wp_region_seqT (fun i => !([5, 6] : List Nat).contains i) (fun i => ([0, 1, 2, 4] : List Nat).contains i) (fun i => ([5] : List Nat).contains i) [0, 1, 2, 3, 4, 5, 6, 7] (GzT fb ab wb zb2 #[.int .i64 k2, .slice gA gl.length gc, .slice A4 m4 c4, .slice A5 m5 c5, .slice A6 m6 c6, .slice A7 m7 c7, .slice A8 m8 c8, .slice fA fl.length fc, .slice cA cl.length cc] #[.int .i64 k0, .int .i64 k1, .int .i64 k2] #[.slice Ap pn kp, .slice Ae en ke] #[.slice Z1 za.org.length z1c, .slice Z2 za.cur.length z2c, .slice Z3 za.touch.length z3c, .slice Z4 za.ends.length z4c]) (by kernel_rfl) (by kernel_rfl) (by kernel_rfl) (by kernel_rfl) ?_
  refine wpSeq_load (v := _) rfl rfl (by kernel_rfl) (fun _ _ _ h => h) HS.out rfl (fun wq hq => by have hk := (hq).2.2.2; have q0 := hk.cell 0; have q1 := hk.cell 1; have q2 := hk.cell 2; have q3 := hk.cell 3; simp only [List.getElem?_toArray, List.getElem?_cons_zero, List.getElem?_cons_succ] at q0 q1 q2 q3; have ql := hk.lt; clear hk hq; first | (go_simp; done) | (go_simp; rfl)) ?_
  refine wpSeq_load (v := _) rfl rfl (by kernel_rfl) (fun _ _ _ h => h) HS.out rfl (fun wq hq => by have hk := (hq).1; have q0 := hk.cell 0; have q1 := hk.cell 1; have q2 := hk.cell 2; have q3 := hk.cell 3; have q4 := hk.cell 4; have q5 := hk.cell 5; have q6 := hk.cell 6; have q7 := hk.cell 7; have q8 := hk.cell 8; simp only [List.getElem?_toArray, List.getElem?_cons_zero, List.getElem?_cons_succ] at q0 q1 q2 q3 q4 q5 q6 q7 q8; have ql := hk.lt; clear hk hq; first | (go_simp; done) | (go_simp; rfl)) ?_
  refine wpSeq_load (v := _) rfl rfl (by kernel_rfl) (fun _ _ _ h => h) HS.out rfl (fun wq hq => by have hk := (hq).2.2.1; have q0 := hk.cell 0; have q1 := hk.cell 1; simp only [List.getElem?_toArray, List.getElem?_cons_zero, List.getElem?_cons_succ] at q0 q1; have ql := hk.lt; clear hk hq; first | (go_simp; done) | (go_simp; rfl)) ?_
  refine wpSeq_pure (v := _) rfl rfl rfl (by kernel_rfl) (fun _ _ _ h => h) (fun wq => by first | (go_simp; done) | (go_simp; rfl)) ?_
  refine wpSeq_load (v := _) rfl rfl (by kernel_rfl) (fun _ _ _ h => h) HS.out rfl (fun wq hq => by have hk := (hq).2.1; have q0 := hk.cell 0; have q1 := hk.cell 1; have q2 := hk.cell 2; simp only [List.getElem?_toArray, List.getElem?_cons_zero, List.getElem?_cons_succ] at q0 q1 q2; have ql := hk.lt; clear hk hq; first | (go_simp; done) | (go_simp; rfl)) ?_
  refine wpSeq_heavy rfl rfl (fun K hK => ?_); go_simp
  refine (rgzone_own k2 k1 (.slice gA gl.length gc) (.slice A4 m4 c4) (.slice A5 m5 c5) (.slice A6 m6 c6) (.slice A7 m7 c7) (.slice A8 m8 c8) (.slice fA fl.length fc) (.slice cA cl.length cc) W2.heap.size W2.heap.size W11.drew pn en pl el _ _ HNN.out (owns_grow HOP11.out HD.out) (owns_grow HOE11.out HD.out) HLN.out HPI2.out HK.out).mono ?_
  rintro e w12 ⟨a6, b6, c6', d6, rfl, hz6, hg6⟩
  have hS6 := HS.out.grow hg6
  refine hK _ _ (fun _ => hS6) ?_; clear hK K
  refine wpSeq_heavy rfl rfl (fun K hK => ?_); go_simp
  refine (rzones_same za w12 _ _ _ _ _ _ _ _ ((HZO11.out.grow HD.out).grow hg6) (by rw [HZA.out]; exact hz6.mono (Nat.zero_le _)) (by rw [HZA.out]; exact gzn_ok _ _ _ _ (by have := HLN.out.1; have := HNN.out.1; omega) (by have := HLN.out.2; have := HNN.out.2; omega))).mono ?_
  rintro e w13 ⟨rfl, hg7⟩
  have HG7 := Lib.hid (HD.out.trans (hg6.trans hg7))
  clear hz6 hg6 hg7 hS6
  refine hK _ _ (fun h => by cases h) ?_; clear hK K
  refine wpSeq_pure (v := _) rfl rfl rfl (by kernel_rfl) (fun _ _ _ h => h) (fun wq => by first | (go_simp; done) | (go_simp; rfl)) ?_
  refine wpSeq_end ?_
  have hgk := HG7.out
  have hfl := HF11.out.lt
  have HF13 := Lib.hid (hgk.blk HF11.out (fun x => x))
  have HA13 := Lib.hid (hgk.blk HA11.out (fun x => x))
  have HWO13 := Lib.hid (hgk.blk HWO11.out (fun x => x))
  have HOP13 := Lib.hid (owns_grow HOP11.out hgk)
  have HOE13 := Lib.hid (owns_grow HOE11.out hgk)
  have HFT13 := Lib.hid (HFT11.out.below (Grow.below hgk (by omega)))
  have HG13 := Lib.hid (HG11.out.trans hgk)
  clear hgk hfl HF11 HA11 HFT11 HWO11 HOP11 HOE11 HG11
  clear HZB11 HZO11 HS HD HG7 HZA HLN HNN HPI2 HOP13 HOE13 HWO13
  generalize w13 = W13 at *
  have H0 := Lib.hid (show GzL w.heap.size fb ab W13 #[.int .i64 k2, .slice gA gl.length gc, .slice A4 m4 c4, .slice A5 m5 c5, .slice A6 m6 c6, .slice A7 m7 c7, .slice A8 m8 c8, .slice fA fl.length fc, .slice cA cl.length cc] #[.int .i64 k0, .int .i64 k1, .int .i64 k2] w gA fA cA gl fl cl from ⟨HF13.out, HA13.out, HFT13.out, HG13.out⟩)
  have HGN := Lib.hid HFT13.out.g10
  clear HF13 HA13 HFT13 HG13
  go_wp2_with fail
  go_loopw [15] (fun i wr => ∃ k : Nat, k ≤ gl.length ∧ i = .int .i64 (k : Int) ∧ GzL w.heap.size fb ab wr #[.int .i64 k2, .slice gA gl.length gc, .slice A4 m4 c4, .slice A5 m5 c5, .slice A6 m6 c6, .slice A7 m7 c7, .slice A8 m8 c8, .slice fA fl.length fc, .slice cA cl.length cc] #[.int .i64 k0, .int .i64 k1, .int .i64 k2] w gA fA cA gl fl cl) (fun i _ => gl.length - (intOf i).toNat)
  case atStart => exact ⟨0, Nat.zero_le _, rfl, H0.out⟩
  case round =>
    clear H0
    obtain ⟨k, hk, rfl, hI⟩ := hrel
    have HI := Lib.hid hI
    have hgn := HGN.out
    have y0 := hI.f.cell 0
    have y1 := hI.f.cell 1
    simp only [List.getElem?_toArray, List.getElem?_cons_zero, List.getElem?_cons_succ] at y0 y1
    have yl := hI.f.lt
    clear y0 hI
    by_cases hlt : (k : Int) < (gl.length : Int)
    · go_upto_region 13 with fail
      clear y1 yl
      have HS := Lib.hid (show (GzU fb ab #[.int .i64 k2, .slice gA gl.length gc, .slice A4 m4 c4, .slice A5 m5 c5, .slice A6 m6 c6, .slice A7 m7 c7, .slice A8 m8 c8, .slice fA fl.length fc, .slice cA cl.length cc] #[.int .i64 k0, .int .i64 k1, .int .i64 k2]) wr.drew from ⟨HI.out.f.drew, HI.out.a.drew⟩)
      have HD := Lib.hid (show Grow wr wr.drew from (Fr.refl _ _).drew)
      refine wp_region_seqT (fun i => !([4, 9, 10] : List Nat).contains i) (fun i => ([0, 3, 5, 8] : List Nat).contains i) (fun i => ([4] : List Nat).contains i) [0, 1, 2, 3, 5, 6, 7, 8, 4, 9, 10, 11] (GzU fb ab #[.int .i64 k2, .slice gA gl.length gc, .slice A4 m4 c4, .slice A5 m5 c5, .slice A6 m6 c6, .slice A7 m7 c7, .slice A8 m8 c8, .slice fA fl.length fc, .slice cA cl.length cc] #[.int .i64 k0, .int .i64 k1, .int .i64 k2]) (by kernel_rfl) (by kernel_rfl) (by kernel_rfl) (by kernel_rfl) ?_
      refine wpSeq_load (v := _) rfl rfl (by kernel_rfl) (fun _ _ _ h => h) HS.out rfl (fun wq hq => by have hk := (hq).1; have q0 := hk.cell 0; have q1 := hk.cell 1; have q2 := hk.cell 2; have q3 := hk.cell 3; have q4 := hk.cell 4; have q5 := hk.cell 5; have q6 := hk.cell 6; have q7 := hk.cell 7; have q8 := hk.cell 8; simp only [List.getElem?_toArray, List.getElem?_cons_zero, List.getElem?_cons_succ] at q0 q1 q2 q3 q4 q5 q6 q7 q8; have ql := hk.lt; clear hk hq; first | (go_simp; done) | (go_simp; rfl)) ?_
      refine wpSeq_pure (v := _) rfl rfl rfl (by kernel_rfl) (fun _ _ _ h => h) (fun wq => by first | (go_simp; done) | (go_simp; rfl)) ?_
      refine wpSeq_pure (v := _) rfl rfl rfl (by kernel_rfl) (fun _ _ _ h => h) (fun wq => by first | (go_simp; done) | (go_simp; rfl)) ?_
      refine wpSeq_load (v := _) rfl rfl (by kernel_rfl) (fun _ _ _ h => h) HS.out rfl (fun wq hq => by have hk := (hq).2; have q0 := hk.cell 0; have q1 := hk.cell 1; have q2 := hk.cell 2; simp only [List.getElem?_toArray, List.getElem?_cons_zero, List.getElem?_cons_succ] at q0 q1 q2; have ql := hk.lt; clear hk hq; first | (go_simp; done) | (go_simp; rfl)) ?_
      refine wpSeq_load (v := _) rfl rfl (by kernel_rfl) (fun _ _ _ h => h) HS.out rfl (fun wq hq => by have hk := (hq).1; have q0 := hk.cell 0; have q1 := hk.cell 1; have q2 := hk.cell 2; have q3 := hk.cell 3; have q4 := hk.cell 4; have q5 := hk.cell 5; have q6 := hk.cell 6; have q7 := hk.cell 7; have q8 := hk.cell 8; simp only [List.getElem?_toArray, List.getElem?_cons_zero, List.getElem?_cons_succ] at q0 q1 q2 q3 q4 q5 q6 q7 q8; have ql := hk.lt; clear hk hq; first | (go_simp; done) | (go_simp; rfl)) ?_
      refine wpSeq_pure (v := _) rfl rfl rfl (by kernel_rfl) (fun _ _ _ h => h) (fun wq => by first | (go_simp; done) | (go_simp; rfl)) ?_
      refine wpSeq_pure (v := _) rfl rfl rfl (by kernel_rfl) (fun _ _ _ h => h) (fun wq => by first | (go_simp; done) | (go_simp; rfl)) ?_
      refine wpSeq_load (v := _) rfl rfl (by kernel_rfl) (fun _ _ _ h => h) HS.out rfl (fun wq hq => by have hk := (hq).2; have q0 := hk.cell 0; have q1 := hk.cell 1; have q2 := hk.cell 2; simp only [List.getElem?_toArray, List.getElem?_cons_zero, List.getElem?_cons_succ] at q0 q1 q2; have ql := hk.lt; clear hk hq; first | (go_simp; done) | (go_simp; rfl)) ?_
      refine wpSeq_heavy rfl rfl (fun K hK => ?_); go_simp
      have hc := gprog_ft w.heap.size k2 k1 k (.slice A4 m4 c4) (.slice A5 m5 c5) (.slice A6 m6 c6) (.slice A7 m7 c7) (.slice A8 m8 c8) gA fA cA gc fc cc fb gl fl cl wr.drew (HI.out.ft.below (Grow.below HD.out (by have := HI.out.f.lt; omega))) (by have := HI.out.f.lt; exact Nat.le_of_lt this) HK.out
      obtain ⟨pg, hpg⟩ : ∃ p, p = gpr k2 k1 k gl fl cl := ⟨_, rfl⟩
      have hps : pg.size = k1 := by rw [hpg]; rfl
      have HPG := Lib.hid (And.intro hpg hps)
      rw [← hpg] at hc
      clear hpg hps
      refine hc.mono ?_
      clear hc
      rintro e w5 ⟨vf, vm, vc, rfl, hpo, hg5⟩
      rw [HPG.out.2]
      have hS5 := HS.out.grow hg5
      refine hK _ _ (fun _ => hS5) ?_; clear hK K
      refine wpSeq_heavy rfl rfl (fun K hK => ?_); go_simp
      have hc := rgprog_ft w.heap.size k2 k1 k (.slice A4 m4 c4) (.slice A5 m5 c5) (.slice A6 m6 c6) (.slice A7 m7 c7) (.slice A8 m8 c8) gA fA cA gc fc cc fb gl fl cl w5 (HI.out.ft.below (Grow.below (HD.out.trans hg5) (by have := HI.out.f.lt; omega))) (by have := HI.out.f.lt; have := (HD.out.trans hg5).size; omega) HK.out
      rw [← HPG.out.1] at hc
      refine hc.mono ?_
      clear hc
      rintro e w6 ⟨a8, b8, c8', rfl, hp8, hg8⟩
      rw [HPG.out.2]
      refine hK _ _ (fun h => by cases h) ?_; clear hK K
      refine wpSeq_heavy rfl rfl (fun K hK => ?_); go_simp
      have hc := gprs_same w.heap.size k2 k1 k gA fA cA fb gl fl cl wr pg HPG.out.1 HI.out.ft w6 wr.drew.heap.size w5.heap.size _ _ _ _ _ _ (hpo.grow hg8) hp8
      rw [HPG.out.2] at hc
      refine hc.mono ?_
      clear hc
      rintro e w7 ⟨rfl, hg7⟩
      have HI7 := Lib.hid (HI.out.grow (HD.out.trans (hg5.trans (hg8.trans hg7))))
      clear hg5 hg8 hg7 hpo hp8 hS5 HS HD HI HPG
      refine hK _ _ (fun h => by cases h) ?_; clear hK K
      refine wpSeq_pure (v := _) rfl rfl rfl (by kernel_rfl) (fun _ _ _ h => h) (fun wq => by first | (go_simp; done) | (go_simp; rfl)) ?_
      refine wpSeq_end ?_
      go_wp2_with fail
      exact ⟨⟨k + 1, by omega, by first | rfl | go_num, HI7.out⟩, by simp [intOf]; omega⟩
    · have HEND := Lib.hid (Grow.below HI.out.g (Nat.le_refl _))
      clear HI
      go_wp2
      go_ret
      exact ⟨rfl, HEND.out⟩
end Go.Proofs.Ytnalbkjbidaojaa

