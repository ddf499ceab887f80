/- fleuronref21.Zone: its contract. -/
import Derived.Test.YtnalbkjbidaojaaGzA
import Derived.Test.YtnalbkjbidaojaaNumL
namespace Go.Proofs.Ytnalbkjbidaojaa
open Go.RowKit Mc

/-- the zone so far -/
def gzK (unit size : Int) (pl : List (Int × Int × Bool)) (el : List Int) (k : Nat) : Zn := ⟨(pl.take k).map (gzF unit size), (pl.take k).map (gzF unit size), List.replicate k 0, el⟩
theorem take_gzF {unit size : Int} {pl : List (Int × Int × Bool)} {k : Nat} {x : Int × Int × Bool} (h : pl[k]? = some x) : (pl.take (k + 1)).map (gzF unit size) = (pl.take k).map (gzF unit size) ++ [gzF unit size x] := by
  rw [List.take_add_one, h, List.map_append]
  rfl
theorem gzK_all (unit size : Int) (pl : List (Int × Int × Bool)) (el : List Int) : gzK unit size pl el pl.length = gzn unit size pl el := by
  unfold gzK gzn
  rw [List.take_length]
def RzwI (X : World) (zb : Nat) (unit size : Int) (pl : List (Int × Int × Bool)) (el : List Int) (ve : Value) (i : Value) (wr : World) : Prop := ∃ (k : Nat) (vo vu vt : Value), k ≤ pl.length ∧ i = .int .i64 (k : Int) ∧ ZnI X zb wr vo vu vt ve (gzK unit size pl el k)
def RzwV (fb cb co k n pc N : Nat) (unit size x y : Int) (i : Nat) (v : Value) (W : World) : Prop :=
  match i with
  | 0 => v = .pointer (some ⟨fb, 0, none⟩)
  | 1 => v = .int .i64 unit
  | 2 => v = .int .i64 size
  | 3 => v = .pointer (some ⟨fb + 1, 0, none⟩)
  | 4 => v = .slice (some ⟨cb, co, none⟩) n pc
  | 5 => v = .int .i64 (k : Int)
  | 6 => v = .pointer (some ⟨cb, co + k * 3, none⟩)
  | 7 => v = .pointer (some ⟨cb, co + k * 3, none⟩)
  | 8 => v = .int .i64 x
  | 9 => v = .int .i64 (gsc unit size x)
  | 10 => v = .pointer (some ⟨fb, 0, none⟩)
  | 11 => v = .int .i64 unit
  | 12 => v = .int .i64 size
  | 13 => v = .pointer (some ⟨fb + 1, 0, none⟩)
  | 14 => v = .slice (some ⟨cb, co, none⟩) n pc
  | 15 => v = .int .i64 (k : Int)
  | 16 => v = .pointer (some ⟨cb, co + k * 3, none⟩)
  | 17 => v = .pointer (some ⟨cb, co + k * 3 + 1, none⟩)
  | 18 => v = .int .i64 y
  | 19 => v = .int .i64 (gsc unit size y)
  | 20 => v = .agg #[.int .i64 (gsc unit size x), .int .i64 (gsc unit size y)]
  | 21 => ∃ g, v = .pointer (some ⟨g, 0, none⟩) ∧ N ≤ g ∧ Blk W g 63 #[.int .i64 0, .int .i64 0]
  | _ => True
theorem RzwV.grow {fb cb co k n pc N : Nat} {unit size x y : Int} {i : Nat} {v : Value} {W W' : World} (h : RzwV fb cb co k n pc N unit size x y i v W) (hg : Grow W W') : RzwV fb cb co k n pc N unit size x y i v W' := by
  match i with
  | 0 | 1 | 2 | 3 | 4 | 5 | 6 | 7 | 8 | 9 | 10 | 11 | 12 | 13 | 14 | 15 | 16 | 17 | 18 | 19 | 20 => exact h
  | 21 => obtain ⟨g, e, h1, h2⟩ := h; exact ⟨g, e, h1, hg.blk h2 (fun x => x)⟩
  | i + 22 => trivial

set_option maxHeartbeats 4000000 in
set_option maxRecDepth 100000 in
theorem rgzone_any (unit size : Int) (f1 f2 f3 f4 f5 f6 f7 f8 : Value) (pA eA : Option Addr) (pc ec B : Nat) (pl : List (Int × Int × Bool)) (el : List Int) (w : World) (hp : Reads w B 3 pA pl.length (opts pl)) (he : Reads w B 1 eA el.length (ints el)) (hB : B ≤ w.heap.size) (hpl : pl.length ≤ 1000000) (hel : el.length ≤ 1000000)
    (hi : ∀ p ∈ pl, (-9223372036854775808 ≤ p.1 ∧ p.1 ≤ 9223372036854775807) ∧ (-9223372036854775808 ≤ p.2.1 ∧ p.2.1 ≤ 9223372036854775807)) (hu : -9223372036854775808 ≤ unit ∧ unit ≤ 9223372036854775807) :
    Calls Try.prog 14 #[.agg #[.int .i64 unit, f1, f2, f3, f4, f5, f6, f7, f8], .agg #[.slice pA pl.length pc, .slice eA el.length ec], .int .i64 size] w (ZnPost w (gzn unit size pl el)) := by
  obtain ⟨n, hn⟩ : ∃ n, n = pl.length := ⟨_, rfl⟩
  obtain ⟨X, hX⟩ : ∃ X, X = (((w.alloc (.cells #[.int .i64 unit, f1, f2, f3, f4, f5, f6, f7, f8] 42)).alloc (.cells #[.slice pA n pc, .slice eA el.length ec] 32)).alloc (.cells #[.slice none 0 0, .slice none 0 0, .slice none 0 0, .slice none 0 0] 47)) := ⟨_, rfl⟩
  have hXw : Grow w X := by rw [hX]; exact (((Fr.refl _ w).alloc _).alloc _).alloc _
  have hb0 : Blk X w.heap.size 42 #[.int .i64 unit, f1, f2, f3, f4, f5, f6, f7, f8] := by rw [hX]; exact ((Blk.new _ _ _).alloc _).alloc _
  have hb1 : Blk X (w.heap.size + 1) 32 #[.slice pA n pc, .slice eA el.length ec] := by rw [hX]; exact (Blk.new_at _ _ _ (by simp)).alloc _
  have hb2 : Blk X (w.heap.size + 1 + 1) 47 #[.slice none 0 0, .slice none 0 0, .slice none 0 0, .slice none 0 0] := by rw [hX]; exact Blk.new_at _ _ _ (by simp)
  have hz0 : X.heap.size = w.heap.size + 3 := by rw [hX]; simp
  have HXZ := Lib.hid hz0
  have HB0 := Lib.hid hb0
  have HB1 := Lib.hid hb1
  have HB2 := Lib.hid hb2
  have HXG := Lib.hid hXw
  have hX0 := Lib.hid hX
  have hkp : ∀ q : Addr, q.block < B → X.cell? q = w.cell? q := fun q hq => hXw.cell (by omega) (fun x => x)
  have HP := Lib.hid ((hn ▸ hp).keep hkp)
  have HE := Lib.hid (he.keep hkp)
  have HI0 := Lib.hid hi
  have HU := Lib.hid hu
  have HN := Lib.hid hn
  have HEL := Lib.hid hel
  have HEX := Lib.hid ((he.keep hkp).alloc (by omega) (.cells #[] 3))
  obtain ⟨i0, hi0, hi1, hi2, hi3⟩ := info_m info_pt
  obtain ⟨j0, hj0, hj1, hj2, hj3⟩ := info_m info_int
  have a1 := hb1.cell 1
  simp only [List.getElem?_toArray, List.getElem?_cons_zero, List.getElem?_cons_succ] at a1
  have al := hb1.lt
  rw [← hn] at hpl ⊢
  clear hp he hi hu hn hel hX hXw hb0 hb1 hb2 hz0 hkp
  go_enter Try.func14, Try.ntmps14
  go_upto_region 1 with fail
  rw [← hX0.out]
  go_upto_region 2 with (at_builtin; refine wpList_append_any _ rfl (.tmp 10) (.tmp 12) _ rfl X.heap.size 3 j0 _ 1 8 Try.underlying30 hj0 hj1 hj2 hj3 rfl (show 0 < 1 by decide) (.slice (some ⟨X.heap.size, 0, none⟩) 0 0) 0 [] rfl (owns_empty (Blk.new _ _ _) (Nat.le_refl _)) _ eA el.length ec (ints el) rfl HEX.out (ints_one _) (by have := HEL.out; unfold maxLen; omega) (by have := HEL.out; omega) (by simp) ?_; intro v' w8 ho8 hg8 h8; have HO8 := Lib.hid ho8; have hgg := grow_of_grown ((Fr.refl _ X).alloc (.cells #[] 3)) hg8 (fun g e => by simp only [Value.ownBlock, Option.some.injEq] at e; omega); have HG8 := Lib.hid hgg; obtain ⟨EA, Ec, e8, _⟩ := owns_form ho8; rw [Nat.zero_add] at e8; subst e8; clear ho8 hg8 h8 hgg)
  clear a1 al
  have hbz : Blk (w8.alloc (.cells #[.slice none 0 0, .slice none 0 0, .slice none 0 0, .slice EA el.length Ec] 47)) w8.heap.size 47 #[.slice none 0 0, .slice none 0 0, .slice none 0 0, .slice EA el.length Ec] := Blk.new _ _ _
  have hga : Grow w8 (w8.alloc (.cells #[.slice none 0 0, .slice none 0 0, .slice none 0 0, .slice EA el.length Ec] 47)) := (Fr.refl _ _).alloc _
  generalize hX1 : w8.alloc (.cells #[.slice none 0 0, .slice none 0 0, .slice none 0 0, .slice EA el.length Ec] 47) = X1 at *
  obtain ⟨zb, hzb⟩ : ∃ zb, zb = w8.heap.size := ⟨_, rfl⟩
  rw [← hzb] at hbz ⊢
  have ho8 := HO8.out
  rw [Nat.zero_add, List.nil_append] at ho8
  have hxz := HXZ.out
  have hg8 := HG8.out.size
  have hI0 : ZnI X zb X1 (.slice none 0 0) (.slice none 0 0) (.slice none 0 0) (.slice EA el.length Ec) (gzK unit size pl el 0) := ⟨hbz, owns_nil _ _ _ _, owns_nil _ _ _ _, owns_nil _ _ _ _, owns_grow ho8 hga, apart_nil, apart_nil, (HG8.out.trans hga).mono (fun _ _ x => x.elim), .inr (by omega)⟩
  have H0 := Lib.hid (show RzwI X zb unit size pl el (.slice EA el.length Ec) (.int .i64 0) X1 from ⟨0, _, _, _, Nat.zero_le _, rfl, hI0⟩)
  have HZB := Lib.hid (show w.heap.size + 3 ≤ zb by omega)
  clear hbz hga hX1 hzb ho8 hxz hg8 hI0 HO8 HG8 HE HEX
  go_wp2_with fail
  go_loopw [8] (fun i wr => RzwI X zb unit size pl el (.slice EA el.length Ec) i wr) (fun i _ => n - (intOf i).toNat)
  case atStart => exact H0.out
  case round =>
    clear H0
    obtain ⟨k, vo, vu, vt, hk, rfl, hI⟩ := hrel
    rw [← HN.out] at hk
    have HI := Lib.hid hI
    have hzb := HZB.out
    have hxz := HXZ.out
    have HOB := Lib.hid (hI.fr.blk HB1.out (show ¬ w.heap.size + 1 = zb by omega))
    have HFB := Lib.hid (hI.fr.blk HB0.out (show ¬ w.heap.size = zb by omega))
    have HKL := Lib.hid (show min k pl.length = k by rw [← HN.out]; omega)
    have y0 := HOB.out.cell 0
    simp only [List.getElem?_toArray, List.getElem?_cons_zero] at y0
    have yl := HOB.out.lt
    by_cases hlt : (k : Int) < (n : Int)
    · obtain ⟨⟨x, y, on⟩, hx⟩ : ∃ x, pl[k]? = some x := ⟨_, List.getElem?_eq_getElem (by have := HN.out; omega)⟩
      obtain ⟨cb, co, rfl, hcb, hcc⟩ := HP.out.at_ (by have := HN.out; omega)
      obtain ⟨q0, q1, q2⟩ := opts_at pl k _ hx
      have hfs := hI.fr.size
      have hcl : cb < wr.heap.size := by omega
      have x0 : wr.cell? ⟨cb, co + k * 3, none⟩ = some (.int .i64 x) := (hI.fr.cell (p := ⟨cb, _, none⟩) (by simp; omega) (show ¬ cb = zb by omega)).trans (hcc _ _ q0)
      have x1 : wr.cell? ⟨cb, co + k * 3 + 1, none⟩ = some (.int .i64 y) := (hI.fr.cell (p := ⟨cb, _, none⟩) (by simp; omega) (show ¬ cb = zb by omega)).trans (by rw [Nat.add_assoc]; exact hcc _ _ q1)
      have HX := Lib.hid (And.intro x0 x1)
      have HPX := Lib.hid (HI0.out _ (List.mem_of_getElem? hx))
      have HXK := Lib.hid hx
      clear q0 q1 q2 hcc hx hI hfs x0 x1 hxz
      go_upto_region 5 with fail
      clear y0 yl
      refine wp_region_conc (RzwV w.heap.size cb co k n pc wr.heap.size unit size x y) (fun W => Grow wr W) Grow (by as_aux_lemma => kernel_rfl) (by as_aux_lemma => kernel_rfl) 22 rfl ?_ ?_ ?_ ?_
      · intro i v W W' hv hr
        exact hv.grow hr
      · exact (Fr.refl _ _).drew
      · intro j ev val W hj hG hev hd
        have _ec := hev.const
        have _ef := hev.func
        have HGG := Lib.hid hG
        have hzW := hG.size
        clear hG
        match j, hj with
        | 0, _ =>
          have _s3 : ev (.tmp 3) = .pointer (some ⟨w.heap.size, 0, none⟩) := hev.other 3 (by kernel_rfl)
          refine ⟨_, rfl, rfl, ?_⟩; unfold yields; go_simp
          exact ⟨rfl, HGG.out, Fr.refl _ _⟩
        | 1, _ =>
          have d0 := hd 0 (by kernel_rfl); have x0 := hev.dep 0 22 (by kernel_rfl) (by kernel_rfl); simp only [RzwV] at d0
          rw [d0] at x0
          have hp := HGG.out.blk HFB.out (fun x => x)
          have r0 := hp.cell 0
          simp only [List.getElem?_toArray, List.getElem?_cons_zero] at r0
          have hpl2 := hp.lt
          clear hp
          refine ⟨_, rfl, rfl, ?_⟩; unfold yields; go_simp
          exact ⟨rfl, HGG.out, Fr.refl _ _⟩
        | 2, _ =>
          have _s2 : ev (.tmp 2) = .int .i64 size := hev.other 2 (by kernel_rfl)
          refine ⟨_, rfl, rfl, ?_⟩; unfold yields; go_simp
          exact ⟨rfl, HGG.out, Fr.refl _ _⟩
        | 3, _ =>
          have _s4 : ev (.tmp 4) = .pointer (some ⟨w.heap.size + 1, 0, none⟩) := hev.other 4 (by kernel_rfl)
          refine ⟨_, rfl, rfl, ?_⟩; unfold yields; go_simp
          exact ⟨rfl, HGG.out, Fr.refl _ _⟩
        | 4, _ =>
          have d3 := hd 3 (by kernel_rfl); have x3 := hev.dep 3 25 (by kernel_rfl) (by kernel_rfl); simp only [RzwV] at d3
          rw [d3] at x3
          have hp := HGG.out.blk HOB.out (fun x => x)
          have r0 := hp.cell 0
          simp only [List.getElem?_toArray, List.getElem?_cons_zero] at r0
          have hpl2 := hp.lt
          clear hp
          refine ⟨_, rfl, rfl, ?_⟩; unfold yields; go_simp
          exact ⟨rfl, HGG.out, Fr.refl _ _⟩
        | 5, _ =>
          have _s8 : ev (.tmp 8) = .int .i64 (k : Int) := hev.other 8 (by kernel_rfl)
          refine ⟨_, rfl, rfl, ?_⟩; unfold yields; go_simp
          exact ⟨rfl, HGG.out, Fr.refl _ _⟩
        | 6, _ =>
          have d4 := hd 4 (by kernel_rfl); have x4 := hev.dep 4 26 (by kernel_rfl) (by kernel_rfl); simp only [RzwV] at d4
          rw [d4] at x4
          have d5 := hd 5 (by kernel_rfl); have x5 := hev.dep 5 27 (by kernel_rfl) (by kernel_rfl); simp only [RzwV] at d5
          rw [d5] at x5
          have i2 : k < n := by omega
          refine ⟨_, rfl, rfl, ?_⟩; unfold yields; go_simp
          exact ⟨rfl, HGG.out, Fr.refl _ _⟩
        | 7, _ =>
          have d6 := hd 6 (by kernel_rfl); have x6 := hev.dep 6 28 (by kernel_rfl) (by kernel_rfl); simp only [RzwV] at d6
          rw [d6] at x6
          refine ⟨_, rfl, rfl, ?_⟩; unfold yields; go_simp
          exact ⟨rfl, HGG.out, Fr.refl _ _⟩
        | 8, _ =>
          have d7 := hd 7 (by kernel_rfl); have x7 := hev.dep 7 29 (by kernel_rfl) (by kernel_rfl); simp only [RzwV] at d7
          rw [d7] at x7
          have xa := (HGG.out.cell (p := ⟨cb, co + k * 3, none⟩) hcl (fun x => x)).trans HX.out.1
          have xb := (HGG.out.cell (p := ⟨cb, co + k * 3 + 1, none⟩) hcl (fun x => x)).trans HX.out.2
          have hcW : cb < W.heap.size := by have := HGG.out.size; omega
          refine ⟨_, rfl, rfl, ?_⟩; unfold yields; go_simp
          exact ⟨rfl, HGG.out, Fr.refl _ _⟩
        | 9, _ =>
          have d1 := hd 1 (by kernel_rfl); have x1 := hev.dep 1 23 (by kernel_rfl) (by kernel_rfl); simp only [RzwV] at d1
          rw [d1] at x1
          have d2 := hd 2 (by kernel_rfl); have x2 := hev.dep 2 24 (by kernel_rfl) (by kernel_rfl); simp only [RzwV] at d2
          rw [d2] at x2
          have d8 := hd 8 (by kernel_rfl); have x8 := hev.dep 8 30 (by kernel_rfl) (by kernel_rfl); simp only [RzwV] at d8
          rw [d8] at x8
          refine ⟨_, rfl, rfl, ?_⟩; unfold yields; go_simp
          refine (rscale_any unit size x W HPX.out.1.1 HPX.out.1.2 HU.out.1 HU.out.2).mono ?_
          rintro e w5 ⟨rfl, hb5⟩
          have hg5 : Grow W w5 := Fr.of_below hb5 (fun k hk _ => hk)
          exact ⟨_, rfl, rfl, HGG.out.trans hg5, hg5⟩
        | 10, _ =>
          have _s3 : ev (.tmp 3) = .pointer (some ⟨w.heap.size, 0, none⟩) := hev.other 3 (by kernel_rfl)
          refine ⟨_, rfl, rfl, ?_⟩; unfold yields; go_simp
          exact ⟨rfl, HGG.out, Fr.refl _ _⟩
        | 11, _ =>
          have d10 := hd 10 (by kernel_rfl); have x10 := hev.dep 10 32 (by kernel_rfl) (by kernel_rfl); simp only [RzwV] at d10
          rw [d10] at x10
          have hp := HGG.out.blk HFB.out (fun x => x)
          have r0 := hp.cell 0
          simp only [List.getElem?_toArray, List.getElem?_cons_zero] at r0
          have hpl2 := hp.lt
          clear hp
          refine ⟨_, rfl, rfl, ?_⟩; unfold yields; go_simp
          exact ⟨rfl, HGG.out, Fr.refl _ _⟩
        | 12, _ =>
          have _s2 : ev (.tmp 2) = .int .i64 size := hev.other 2 (by kernel_rfl)
          refine ⟨_, rfl, rfl, ?_⟩; unfold yields; go_simp
          exact ⟨rfl, HGG.out, Fr.refl _ _⟩
        | 13, _ =>
          have _s4 : ev (.tmp 4) = .pointer (some ⟨w.heap.size + 1, 0, none⟩) := hev.other 4 (by kernel_rfl)
          refine ⟨_, rfl, rfl, ?_⟩; unfold yields; go_simp
          exact ⟨rfl, HGG.out, Fr.refl _ _⟩
        | 14, _ =>
          have d13 := hd 13 (by kernel_rfl); have x13 := hev.dep 13 35 (by kernel_rfl) (by kernel_rfl); simp only [RzwV] at d13
          rw [d13] at x13
          have hp := HGG.out.blk HOB.out (fun x => x)
          have r0 := hp.cell 0
          simp only [List.getElem?_toArray, List.getElem?_cons_zero] at r0
          have hpl2 := hp.lt
          clear hp
          refine ⟨_, rfl, rfl, ?_⟩; unfold yields; go_simp
          exact ⟨rfl, HGG.out, Fr.refl _ _⟩
        | 15, _ =>
          have _s8 : ev (.tmp 8) = .int .i64 (k : Int) := hev.other 8 (by kernel_rfl)
          refine ⟨_, rfl, rfl, ?_⟩; unfold yields; go_simp
          exact ⟨rfl, HGG.out, Fr.refl _ _⟩
        | 16, _ =>
          have d14 := hd 14 (by kernel_rfl); have x14 := hev.dep 14 36 (by kernel_rfl) (by kernel_rfl); simp only [RzwV] at d14
          rw [d14] at x14
          have d15 := hd 15 (by kernel_rfl); have x15 := hev.dep 15 37 (by kernel_rfl) (by kernel_rfl); simp only [RzwV] at d15
          rw [d15] at x15
          have i2 : k < n := by omega
          refine ⟨_, rfl, rfl, ?_⟩; unfold yields; go_simp
          exact ⟨rfl, HGG.out, Fr.refl _ _⟩
        | 17, _ =>
          have d16 := hd 16 (by kernel_rfl); have x16 := hev.dep 16 38 (by kernel_rfl) (by kernel_rfl); simp only [RzwV] at d16
          rw [d16] at x16
          refine ⟨_, rfl, rfl, ?_⟩; unfold yields; go_simp
          exact ⟨rfl, HGG.out, Fr.refl _ _⟩
        | 18, _ =>
          have d17 := hd 17 (by kernel_rfl); have x17 := hev.dep 17 39 (by kernel_rfl) (by kernel_rfl); simp only [RzwV] at d17
          rw [d17] at x17
          have xa := (HGG.out.cell (p := ⟨cb, co + k * 3, none⟩) hcl (fun x => x)).trans HX.out.1
          have xb := (HGG.out.cell (p := ⟨cb, co + k * 3 + 1, none⟩) hcl (fun x => x)).trans HX.out.2
          have hcW : cb < W.heap.size := by have := HGG.out.size; omega
          refine ⟨_, rfl, rfl, ?_⟩; unfold yields; go_simp
          exact ⟨rfl, HGG.out, Fr.refl _ _⟩
        | 19, _ =>
          have d11 := hd 11 (by kernel_rfl); have x11 := hev.dep 11 33 (by kernel_rfl) (by kernel_rfl); simp only [RzwV] at d11
          rw [d11] at x11
          have d12 := hd 12 (by kernel_rfl); have x12 := hev.dep 12 34 (by kernel_rfl) (by kernel_rfl); simp only [RzwV] at d12
          rw [d12] at x12
          have d18 := hd 18 (by kernel_rfl); have x18 := hev.dep 18 40 (by kernel_rfl) (by kernel_rfl); simp only [RzwV] at d18
          rw [d18] at x18
          refine ⟨_, rfl, rfl, ?_⟩; unfold yields; go_simp
          refine (rscale_any unit size y W HPX.out.2.1 HPX.out.2.2 HU.out.1 HU.out.2).mono ?_
          rintro e w5 ⟨rfl, hb5⟩
          have hg5 : Grow W w5 := Fr.of_below hb5 (fun k hk _ => hk)
          exact ⟨_, rfl, rfl, HGG.out.trans hg5, hg5⟩
        | 20, _ =>
          have d9 := hd 9 (by kernel_rfl); have x9 := hev.dep 9 31 (by kernel_rfl) (by kernel_rfl); simp only [RzwV] at d9
          rw [d9] at x9
          have d19 := hd 19 (by kernel_rfl); have x19 := hev.dep 19 41 (by kernel_rfl) (by kernel_rfl); simp only [RzwV] at d19
          rw [d19] at x19
          refine ⟨_, rfl, rfl, ?_⟩; unfold yields; go_simp
          exact ⟨rfl, HGG.out, Fr.refl _ _⟩
        | 21, _ =>
          refine ⟨_, rfl, rfl, ?_⟩; unfold yields; go_simp
          exact ⟨⟨_, rfl, HGG.out.size, Blk.new _ _ _⟩, HGG.out.alloc _, (Fr.refl _ _).alloc _⟩
        | i + 22, hi => exact absurd hi (by simp)
      · intro val W hG hV
        have v20 := hV 20 (by decide)
        obtain ⟨o, v21, ho1, ho2⟩ := hV 21 (by decide)
        simp only [RzwV] at v20
        generalize hpx : gsc unit size x = px at *
        generalize hpy : gsc unit size y = py at *
        have HPF := Lib.hid (And.intro hpx hpy)
        clear hpx hpy
        have c0 := ho2.cell 0
        have c1 := ho2.cell 1
        simp only [List.getElem?_toArray, List.getElem?_cons_zero, List.getElem?_cons_succ] at c0 c1
        have f0 := ho2.frozen 0
        have f1 := ho2.frozen 1
        have gl := ho2.lt
        have hGW : Grow wr ((W.setCell ⟨o, 0, none⟩ (.int .i64 px)).setCell ⟨o, 1, none⟩ (.int .i64 py)) := (hG.setCell (.inr ho1) _).setCell (.inr ho1) _
        have HC2 : Hid (Blk ((W.setCell ⟨o, 0, none⟩ (.int .i64 px)).setCell ⟨o, 1, none⟩ (.int .i64 py)) o 63 #[.int .i64 px, .int .i64 py]) := Lib.hid (by have := (ho2.set_ 0 (.int .i64 px)).set_ 1 (.int .i64 py); simpa using this)
        have HNV := Lib.hid (show (∀ g', vo.ownBlock = some g' → g' < wr.heap.size) ∧ (∀ g', vu.ownBlock = some g' → g' < wr.heap.size) from ⟨fun g' e => (owns_block HI.out.org e).2.1, fun g' e => (owns_block HI.out.cur e).2.1⟩)
        have HPO := Lib.hid ho1
        have HPB := HC2
        have HI2 := Lib.hid (HI.out.go hGW)
        have hzo : ¬ zb = o := by have := HI.out.box.lt; omega
        clear hV hG ho2 ho1 hGW HI HC2
        unfold wpOp
        change (if _ then _ else _)
        rw [if_pos (by kernel_rfl)]
        refine .inl ?_
        simp only [fillA, dstOf, List.getElem?_toArray, List.getElem?_cons_zero, List.getElem?_cons_succ, Option.bind_some]
        go_simp
        clear c0 c1 f0 f1 gl
        generalize ((W.setCell ⟨o, 0, none⟩ (.int .i64 px)).setCell ⟨o, 1, none⟩ (.int .i64 py)) = W2 at *
        have HI := HI2
        clear HI2
        have c0 := HPB.out.cell 0
        have c1 := HPB.out.cell 1
        simp only [List.getElem?_toArray, List.getElem?_cons_zero, List.getElem?_cons_succ] at c0 c1
        have gl := HPB.out.lt
        have y0 := HI.out.box.cell 0
        simp only [List.getElem?_toArray, List.getElem?_cons_zero] at y0
        have yl := HI.out.box.lt
        have hws := HI.out.fr.size
        go_upto_region 7 with (at_builtin; refine wpList_append_any _ rfl (.tmp 44) (.tmp 46) _ rfl X.heap.size 63 i0 _ 2 16 Try.underlying45 hi0 hi1 hi2 hi3 rfl (show 0 < 2 by decide) vo k (pts ((pl.take k).map (gzF unit size))) rfl (by have := (HI.out.alloc (.cells #[.int .i64 px, .int .i64 py] 63)).org; simpa [gzK, HKL.out] using this) _ _ 1 1 [.int .i64 px, .int .i64 py] rfl (Reads.blk (cs := [.int .i64 px, .int .i64 py]) (Blk.new _ _ _) 2 1 rfl) (by simp [Value.oneCell']) (by unfold maxLen; omega) (by omega) (by simp; omega) ?_; intro v' w8 ho8 hg8 h8; obtain ⟨hbx, hI8⟩ := (HI.out.alloc (.cells #[.int .i64 px, .int .i64 py] 63)).push_org (p := (px, py)) (by simpa [gzK, HKL.out] using ho8) hg8 h8; have b0 := hbx.cell 0; have b1 := hbx.frozen 0; have b2 := hbx.lt; simp only [List.getElem?_toArray, List.getElem?_cons_zero] at b0; have HI8 := Lib.hid hI8; have HP8 := Lib.hid (((HPB.out.alloc (.cells #[.int .i64 px, .int .i64 py] 63)).grown hg8 (fun e => by have := HNV.out.1 _ e.symm; have := HPO.out; omega))); obtain ⟨VA, Vc, e8, _⟩ := owns_form ho8; subst e8; clear hI8 ho8 hg8 h8 hbx)
        have HPB2 := Lib.hid (HP8.out.far (p := ⟨zb, 0, none⟩) (fun e => hzo e.symm) (.slice VA (k + 1) Vc))
        have HI3 := HI8
        clear HI8 HI HPB HP8 b0 b1 b2 c0 c1 gl y0 yl
        generalize w8.setCell ⟨zb, 0, none⟩ (.slice VA (k + 1) Vc) = W3 at *
        have HI := HI3
        have HPB := HPB2
        clear HI3 HPB2
        have c0 := HPB.out.cell 0
        have c1 := HPB.out.cell 1
        simp only [List.getElem?_toArray, List.getElem?_cons_zero, List.getElem?_cons_succ] at c0 c1
        have gl := HPB.out.lt
        have y0 := HI.out.box.cell 1
        simp only [List.getElem?_toArray, List.getElem?_cons_zero, List.getElem?_cons_succ] at y0
        have yl := HI.out.box.lt
        have hws := HI.out.fr.size
        go_upto_region 8 with (at_builtin; refine wpList_append_any _ rfl (.tmp 50) (.tmp 52) _ rfl X.heap.size 63 i0 _ 2 16 Try.underlying45 hi0 hi1 hi2 hi3 rfl (show 0 < 2 by decide) vu k (pts ((pl.take k).map (gzF unit size))) rfl (by have := (HI.out.alloc (.cells #[.int .i64 px, .int .i64 py] 63)).cur; simpa [gzK, HKL.out] using this) _ _ 1 1 [.int .i64 px, .int .i64 py] rfl (Reads.blk (cs := [.int .i64 px, .int .i64 py]) (Blk.new _ _ _) 2 1 rfl) (by simp [Value.oneCell']) (by unfold maxLen; omega) (by omega) (by simp; omega) ?_; intro v' w8 ho8 hg8 h8; obtain ⟨hbx, hI8⟩ := (HI.out.alloc (.cells #[.int .i64 px, .int .i64 py] 63)).push_cur (p := (px, py)) (by simpa [gzK, HKL.out] using ho8) hg8 h8; have b0 := hbx.cell 1; have b1 := hbx.frozen 1; have b2 := hbx.lt; simp only [List.getElem?_toArray, List.getElem?_cons_zero, List.getElem?_cons_succ] at b0; have HI8 := Lib.hid hI8;  obtain ⟨UA, Uc, e8, _⟩ := owns_form ho8; subst e8; clear hI8 ho8 hg8 h8 hbx)
        have HI3 := HI8
        clear HI8 HI HPB b0 b1 b2 c0 c1 gl y0 yl
        generalize w8.setCell ⟨zb, 1, none⟩ (.slice UA (k + 1) Uc) = W4 at *
        have HI := HI3
        clear HI3
        have y0 := HI.out.box.cell 2
        simp only [List.getElem?_toArray, List.getElem?_cons_zero, List.getElem?_cons_succ] at y0
        have yl := HI.out.box.lt
        have hws := HI.out.fr.size
        go_wp2_with (at_builtin; refine wpList_append_any _ rfl (.tmp 56) (.tmp 57) _ rfl X.heap.size 3 j0 _ 1 8 Try.underlying30 hj0 hj1 hj2 hj3 rfl (show 0 < 1 by decide) vt k (ints (List.replicate k 0)) rfl (by have := (HI.out.alloc (.cells #[.int .i64 0] 3)).touch; simpa [gzK, HKL.out] using this) _ _ 1 1 [.int .i64 0] rfl (Reads.blk (cs := [.int .i64 0]) (Blk.new _ _ _) 1 1 rfl) (by simp [Value.oneCell']) (by unfold maxLen; omega) (by omega) (by simp; omega) ?_; intro v' w8 ho8 hg8 h8; obtain ⟨hbx, hI8⟩ := (HI.out.alloc (.cells #[.int .i64 0] 3)).push_touch (p := 0) (by simpa [gzK, HKL.out] using ho8) hg8 h8; have b0 := hbx.cell 2; have b1 := hbx.frozen 2; have b2 := hbx.lt; simp only [List.getElem?_toArray, List.getElem?_cons_zero, List.getElem?_cons_succ] at b0; have HI8 := Lib.hid hI8;  obtain ⟨TA, Tc, e8, _⟩ := owns_form ho8; subst e8; clear hI8 ho8 hg8 h8 hbx)
        refine ⟨⟨k + 1, .slice VA (k + 1) Vc, .slice UA (k + 1) Uc, .slice TA (k + 1) Tc, by have := HN.out; omega, by simp, ?_⟩, by simp [intOf]; omega⟩
        have h := HI8.out
        simp only [gzK] at h ⊢
        rw [take_gzF HXK.out, List.replicate_succ']
        simpa [gzF, HPF.out.1, HPF.out.2] using h
    · have hke : k = pl.length := by have := HN.out; omega
      subst hke
      rw [gzK_all] at hI
      obtain ⟨Ao, ao, rfl, _⟩ := owns_form hI.org
      obtain ⟨Au, au, rfl, _⟩ := owns_form hI.cur
      obtain ⟨At, at_, rfl, _⟩ := owns_form hI.touch
      have HBR := Lib.hid (hI.fr.blk HB2.out (show ¬ w.heap.size + 1 + 1 = zb by omega))
      have x0 := hI.box.cell 0
      have x1 := hI.box.cell 1
      have x2 := hI.box.cell 2
      have x3 := hI.box.cell 3
      have y1 := HBR.out.cell 0
      have y2 := HBR.out.cell 1
      have y3 := HBR.out.cell 2
      have y4 := HBR.out.cell 3
      simp only [List.getElem?_toArray, List.getElem?_cons_zero, List.getElem?_cons_succ] at x0 x1 x2 x3 y1 y2 y3 y4
      have xl := hI.box.lt
      have yf := HBR.out.frozen
      have yk := HBR.out.lt
      have hend : ∀ W', W' = ((((wr.setCell ⟨w.heap.size + 1 + 1, 0, none⟩ (.slice Ao (gzn unit size pl el).org.length ao)).setCell ⟨w.heap.size + 1 + 1, 1, none⟩ (.slice Au (gzn unit size pl el).cur.length au)).setCell ⟨w.heap.size + 1 + 1, 2, none⟩ (.slice At (gzn unit size pl el).touch.length at_)).setCell ⟨w.heap.size + 1 + 1, 3, none⟩ (.slice EA el.length Ec)) → ZnPost w (gzn unit size pl el) (.returned (.agg #[.slice Ao (gzn unit size pl el).org.length ao, .slice Au (gzn unit size pl el).cur.length au, .slice At (gzn unit size pl el).touch.length at_, .slice EA el.length Ec])) W' := by
        intro W' hW'
        have k0 := HBR.out
        have k1 := k0.set_ 0 (.slice Ao (gzn unit size pl el).org.length ao)
        have k2 := k1.set_ 1 (.slice Au (gzn unit size pl el).cur.length au)
        have k3 := k2.set_ 2 (.slice At (gzn unit size pl el).touch.length at_)
        have hb : w.heap.size ≤ X.heap.size := by omega
        have q0 := owns_box (owns_box (owns_box (owns_box (owns_mono hI.org hb) k0 (by decide) _ _) k1 (by decide) _ _) k2 (by decide) _ _) k3 (by decide) 3 (.slice EA el.length Ec)
        have q1 := owns_box (owns_box (owns_box (owns_box (owns_mono hI.cur hb) k0 (by decide) _ _) k1 (by decide) _ _) k2 (by decide) _ _) k3 (by decide) 3 (.slice EA el.length Ec)
        have q2 := owns_box (owns_box (owns_box (owns_box (owns_mono hI.touch hb) k0 (by decide) _ _) k1 (by decide) _ _) k2 (by decide) _ _) k3 (by decide) 3 (.slice EA el.length Ec)
        have q3 := owns_box (owns_box (owns_box (owns_box (owns_mono hI.ends hb) k0 (by decide) _ _) k1 (by decide) _ _) k2 (by decide) _ _) k3 (by decide) 3 (.slice EA el.length Ec)
        refine ⟨_, _, _, _, rfl, ?_, ?_⟩
        · rw [hW']
          exact ⟨q0, q1, q2, q3⟩
        · rw [hW']
          have hX := HXG.out
          have hf : Grow w wr := ⟨hI.fr.os.trans hX.os, hI.fr.tape.trans hX.tape, hI.fr.output.trans hX.output, by have := hI.fr.size; omega, fun k hk _ => (hI.fr.block k (by omega) (by omega)).trans (hX.block k hk (fun x => x))⟩
          have hg1 : w.heap.size ≤ w.heap.size + 1 + 1 := by omega
          exact (((hf.setCell (.inr hg1) _).setCell (.inr hg1) _).setCell (.inr hg1) _).setCell (.inr hg1) _
      have HEND := Lib.hid hend
      clear hend HI HBR hzb hxz
      have hI2 := Lib.hid hI
      clear hI
      go_wp2
      refine bodyPost_ret (v := .agg #[.slice Ao (gzn unit size pl el).org.length ao, .slice Au (gzn unit size pl el).cur.length au, .slice At (gzn unit size pl el).touch.length at_, .slice EA el.length Ec]) (by simp [results, Try.results14, go_sem, y1, y2, y3, y4]) rfl ?_
      exact HEND.out _ rfl
end Go.Proofs.Ytnalbkjbidaojaa
