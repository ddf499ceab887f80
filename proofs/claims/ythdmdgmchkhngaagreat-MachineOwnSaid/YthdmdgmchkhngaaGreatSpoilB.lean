/- fleuronref18.Rest and Spoilt, their contracts; programs that lie in memory. -/
import Derived.Test.YthdmdgmchkhngaaGreatMadeL
namespace Go.Proofs.YthdmdgmchkhngaaGreat
open Go.RowKit

/-- what lies below B1 alone -/
def Repr.old {N0 : Nat} {α : Type} (B1 : Nat) (R : Repr N0 α) : Repr B1 α where
  size := R.size
  tys := []
  rel w B a cs := B1 ≤ B ∧ R.rel w B1 a cs
  len h := R.len h.2
  keep h k := ⟨h.1, R.keep h.2 fun g t xs fz hg _ hh => k g t xs fz (Nat.lt_of_lt_of_le hg h.1) (.inl hg) hh⟩
  more h hB := ⟨Nat.le_trans h.1 hB, h.2⟩
  one h := R.one h.2
theorem RowAt.old {N0 : Nat} {α : Type} {R : Repr N0 α} {t t' : TypeId} {w : World} {B1 B : Nat} {A : Option Addr} {l : List α} (h : RowAt R t w B1 A l) (hB : B1 ≤ B) : RowAt (Repr.old B1 R) t' w B A l := by
  obtain ⟨css, h1, h2, h3⟩ := h
  refine ⟨css, h1, fun i a cs ha hc => ⟨hB, h2 i a cs ha hc⟩, fun hl => ?_⟩
  obtain ⟨b, off, xs, t'', fz, e, hb, _, hh, hc⟩ := h3 hl
  exact ⟨b, off, xs, t'', fz, e, by omega, .inl hb, hh, hc⟩
theorem OwnAt.ofOld {N0 : Nat} {α : Type} {R : Repr N0 α} {t : TypeId} {w : World} {B1 base : Nat} {v : Value} {l : List α} (h : OwnAt (Repr.old B1 R) t base w v l) : OwnAt R t base w v l := by
  obtain ⟨css, ho, h1, h2⟩ := h
  exact ⟨css, ho, h1, fun i a cs ha hc => R.more (h2 i a cs ha hc).2 (h2 i a cs ha hc).1⟩
def progR (N0 : Nat) : Repr N0 (List (List (Int × Int)) × List (Int × Int) × List Int × Int) := Repr.pair (Repr.row 26 (codeR N0)) (Repr.pair (codeR N0) (Repr.pair (intsR N0) Repr.int))
/-- a program's four cells -/
structure ProgAt (N0 : Nat) (B : Nat) (w : World) (A0 A1 A2 : Option Addr) (c0 c1 c2 : Nat) (fl : List (List (Int × Int))) (ml : List (Int × Int)) (cl : List Int) (size : Int) : Prop where
  f : fl.length ≤ c0 ∧ c0 ≤ maxLen ∧ RowAt (codeR N0) 26 w B A0 fl
  m : ml.length ≤ c1 ∧ c1 ≤ maxLen ∧ RowAt (insR N0) 61 w B A1 ml
  c : cl.length ≤ c2 ∧ c2 ≤ maxLen ∧ RowAt (Repr.int (N0 := N0)) 3 w B A2 cl
  s : I64 size
  k : cl.length ≤ 300
def ProgPost (N0 : Nat) (w : World) (e : Ending) (w' : World) : Prop :=
  ∃ A0 A1 A2 c0 c1 c2 fl ml cl size, e = .returned (.agg #[.slice A0 (List.length fl) c0, .slice A1 (List.length ml) c1, .slice A2 (List.length cl) c2, .int .i64 size]) ∧ ProgAt N0 w'.heap.size w' A0 A1 A2 c0 c1 c2 fl ml cl size ∧ fl.length ≤ 30 ∧ (∀ f ∈ fl, f.length ≤ 300) ∧ ml.length ≤ 300 ∧ Below w.heap.size w w'
theorem ProgAt.below {N0 B : Nat} {w w' : World} {A0 A1 A2 : Option Addr} {c0 c1 c2 : Nat} {fl : List (List (Int × Int))} {ml : List (Int × Int)} {cl : List Int} {size : Int} (h : ProgAt N0 B w A0 A1 A2 c0 c1 c2 fl ml cl size) {C : Nat} (hb : Below C w w') (hC : B ≤ C) : ProgAt N0 B w' A0 A1 A2 c0 c1 c2 fl ml cl size :=
  ⟨⟨h.f.1, h.f.2.1, h.f.2.2.below hb hC⟩, ⟨h.m.1, h.m.2.1, h.m.2.2.below hb hC⟩, ⟨h.c.1, h.c.2.1, h.c.2.2.below hb hC⟩, h.s, h.k⟩
theorem ProgAt.more {N0 B B' : Nat} {w : World} {A0 A1 A2 : Option Addr} {c0 c1 c2 : Nat} {fl : List (List (Int × Int))} {ml : List (Int × Int)} {cl : List Int} {size : Int} (h : ProgAt N0 B w A0 A1 A2 c0 c1 c2 fl ml cl size) (hB : B ≤ B') : ProgAt N0 B' w A0 A1 A2 c0 c1 c2 fl ml cl size :=
  ⟨⟨h.f.1, h.f.2.1, h.f.2.2.more hB⟩, ⟨h.m.1, h.m.2.1, h.m.2.2.more hB⟩, ⟨h.c.1, h.c.2.1, h.c.2.2.more hB⟩, h.s, h.k⟩

theorem RowAt.setCell {N0 : Nat} {α : Type} {R : Repr N0 α} {t : TypeId} {w : World} {B : Nat} {A : Option Addr} {l : List α} (h : RowAt R t w B A l) {k : Nat} {t0 : TypeId} {xs : Array Value} (hb : Blk w k t0 xs) (hne : t0 ∉ t :: R.tys) (hN : N0 ≤ k) (i : Nat) (u : Value) : RowAt R t (w.setCell ⟨k, i, none⟩ u) B A l :=
  h.keep fun g t' xs fz _ ht hh => by
    rcases ht with ht | ht
    · rw [Below.heap_setCell _ _ _ _ (by simp; omega)]; exact hh
    · exact set_keeps hb i u g t' xs fz (fun e => hne (e ▸ ht)) hh
theorem ProgAt.setCell {N0 B : Nat} {w : World} {A0 A1 A2 : Option Addr} {c0 c1 c2 : Nat} {fl : List (List (Int × Int))} {ml : List (Int × Int)} {cl : List Int} {size : Int} (h : ProgAt N0 B w A0 A1 A2 c0 c1 c2 fl ml cl size) {k : Nat} {xs : Array Value} (hb : Blk w k 28 xs) (hN : N0 ≤ k) (i : Nat) (u : Value) : ProgAt N0 B (w.setCell ⟨k, i, none⟩ u) A0 A1 A2 c0 c1 c2 fl ml cl size :=
  ⟨⟨h.f.1, h.f.2.1, h.f.2.2.setCell hb (by show 28 ∉ [26, 61]; decide) hN _ _⟩, ⟨h.m.1, h.m.2.1, h.m.2.2.setCell hb (by show 28 ∉ [61]; decide) hN _ _⟩, ⟨h.c.1, h.c.2.1, h.c.2.2.setCell hb (by show 28 ∉ [3]; decide) hN _ _⟩, h.s, h.k⟩
/-- a program in a box -/
def PBox (N0 : Nat) (w : World) (b : Nat) (wx : World) : Prop :=
  ∃ A0 A1 A2 c0 c1 c2 fl ml cl size, Blk wx b 28 #[.slice A0 (List.length fl) c0, .slice A1 (List.length ml) c1, .slice A2 (List.length cl) c2, .int .i64 size] ∧ ProgAt N0 wx.heap.size wx A0 A1 A2 c0 c1 c2 fl ml cl size ∧ fl.length ≤ 30 ∧ (∀ f ∈ fl, f.length ≤ 300) ∧ ml.length ≤ 300 ∧ Below w.heap.size w wx
theorem rest_any (w : World) (a n : Int) (_ha : I64 a) (hn0 : 1 ≤ n) (hn1 : n ≤ 1000000000) :
    Calls Tryz.prog 26 #[.int .i64 a, .int .i64 n] w fun e w' => ∃ r : Int, 0 ≤ r ∧ r < n ∧ e = .returned (.int .i64 r) ∧ w' = w := by
  have _ht1 : -n < a.tmod n := by have := Int.lt_tmod_of_pos a (show 0 < n by omega); omega
  have _ht2 : a.tmod n < n := Int.tmod_lt_of_pos a (by omega)
  have hrn : 0 ≤ (a.tmod n + n) % n ∧ (a.tmod n + n) % n < n := ⟨Int.emod_nonneg _ (by omega), Int.emod_lt_of_pos _ (by omega)⟩
  go_enter Tryz.func26, Tryz.ntmps26
  go_wp2
  go_ret
  exact ⟨_, hrn.1, hrn.2, rfl, rfl⟩
end Go.Proofs.YthdmdgmchkhngaaGreat
namespace Go.Proofs.YthdmdgmchkhngaaGreat
open Go.RowKit

/-- while a program is spoilt: its box, the numbers, the result's box, the functions, the code -/
structure SpS (N0 : Nat) (w : World) (pv : Array Value) (q0 q1 q2 q3 : Int) (fl : List (List (Int × Int))) (vl vc : Value) (cd : List (Int × Int)) (wx : World) : Prop where
  pb : Blk wx w.heap.size 28 pv
  qb : Blk wx (w.heap.size + 1) 23 #[.int .i64 q0, .int .i64 q1, .int .i64 q2, .int .i64 q3]
  rb : Blk wx (w.heap.size + 1 + 1) 28 #[.slice none 0 0, .slice none 0 0, .slice none 0 0, .int .i64 0]
  l : OwnAt (Repr.old w.heap.size (codeR N0)) 26 w.heap.size wx vl fl
  code : OwnAt (insR w.heap.size) 61 w.heap.size wx vc cd
  bl : Below w.heap.size w wx
section
variable {N0 : Nat} {w wx wy : World} {pv : Array Value} {q0 q1 q2 q3 : Int} {fl : List (List (Int × Int))} {vl vc : Value} {cd : List (Int × Int)}
theorem SpS.below (h : SpS N0 w pv q0 q1 q2 q3 fl vl vc cd wx) (hb : Below wx.heap.size wx wy) : SpS N0 w pv q0 q1 q2 q3 fl vl vc cd wy :=
  ⟨h.pb.below hb h.pb.lt, h.qb.below hb h.qb.lt, h.rb.below hb h.rb.lt, h.l.below hb (Nat.le_refl _), h.code.below hb (Nat.le_refl _), h.bl.trans (hb.mono h.bl.size)⟩
theorem SpS.alloc (h : SpS N0 w pv q0 q1 q2 q3 fl vl vc cd wx) (o : Obj) : SpS N0 w pv q0 q1 q2 q3 fl vl vc cd (wx.alloc o) := h.below ((Below.refl _ _).alloc (Nat.le_refl _) _)
theorem SpS.drew (h : SpS N0 w pv q0 q1 q2 q3 fl vl vc cd wx) : SpS N0 w pv q0 q1 q2 q3 fl vl vc cd wx.drew := h.below (Below.refl _ _).drew
/-- a new row of code has been made -/
theorem SpS.code' (h : SpS N0 w pv q0 q1 q2 q3 fl vl vc cd wx) {v0 v' : Value} {c0 cd' : List (Int × Int)} (k : OwnAt (insR w.heap.size) 61 w.heap.size wx v0 c0) (hg : wx.grownBy wy v0.ownBlock) (ho : OwnAt (insR w.heap.size) 61 w.heap.size wy v' cd') : SpS N0 w pv q0 q1 q2 q3 fl vl v' cd' wy :=
  ⟨h.pb.grownOwn k hg (by decide), h.qb.grownOwn k hg (by decide), h.rb.grownOwn k hg (by decide), h.l.apart k hg (Nat.le_refl _) (by show 61 ∉ [26]; decide), ho, below_own k h.bl hg h.bl.size (Nat.le_refl _)⟩
theorem SpS.l' (h : SpS N0 w pv q0 q1 q2 q3 fl vl vc cd wx) {v' : Value} {fl' : List (List (Int × Int))} (hg : wx.grownBy wy vl.ownBlock) (ho : OwnAt (Repr.old w.heap.size (codeR N0)) 26 w.heap.size wy v' fl') : SpS N0 w pv q0 q1 q2 q3 fl' v' vc cd wy :=
  ⟨h.pb.grownOwn h.l hg (by decide), h.qb.grownOwn h.l hg (by decide), h.rb.grownOwn h.l hg (by decide), ho, h.code.apart h.l hg (Nat.le_refl _) (by show 26 ∉ [61]; decide), below_own h.l h.bl hg h.bl.size (Nat.le_refl _)⟩
/-- a cell of the code is written -/
theorem SpS.setCode (h : SpS N0 w pv q0 q1 q2 q3 fl vl vc cd wx) {g n cap i j : Nat} {a a' : Int × Int} (ha : cd[i]? = some a) (hj : j < 2) (u : Value) (hr : ∀ cs, (insR w.heap.size).rel wx wx.heap.size a cs → (insR w.heap.size).rel wx wx.heap.size a' (cs.set j u)) (hv : vc = .slice (some ⟨g, 0, none⟩) n cap) : SpS N0 w pv q0 q1 q2 q3 fl vl vc (cd.set i a') (wx.setCell ⟨g, i * 2 + j, none⟩ u) := by
  obtain ⟨hge, xs, hb⟩ := h.code.blk hv
  have ne : ∀ (k : Nat) (t : TypeId) (ys : Array Value), Blk wx k t ys → t ≠ 61 → k ≠ g := fun k t ys hk hne e => by
    subst e
    unfold Blk at hk hb
    rw [hb] at hk
    injection hk with hk
    injection hk with _ h2
    exact hne h2.symm
  exact ⟨h.pb.far (ne _ _ _ h.pb (by decide)) _, h.qb.far (ne _ _ _ h.qb (by decide)) _, h.rb.far (ne _ _ _ h.rb (by decide)) _, h.l.setCell hb (by show 61 ∉ [26]; decide) hge _ _, h.code.upd ha hj u (by show 61 ∉ []; simp) (Nat.le_refl _) hr hv, h.bl.setCell (by simp; omega) _⟩
end
theorem emptyCode (w : World) (B : Nat) (hB : B ≤ w.heap.size) : OwnAt (insR B) 61 B (w.alloc (.cells #[] 61)) (.slice (some ⟨w.heap.size, 0, none⟩) 0 0) [] := OwnAt.empty _ (Blk.new _ _ _) hB
theorem RowAt.renum {N0 B1 : Nat} {t : TypeId} {w : World} {B : Nat} {A : Option Addr} {l : List (Int × Int)} (h : RowAt (insR N0) t w B1 A l) (hB : B1 ≤ B) : RowAt (insR B1) t w B A l := by
  obtain ⟨css, h1, h2, h3⟩ := h
  refine ⟨css, h1, h2, fun hl => ?_⟩
  obtain ⟨b, off, xs, t'', fz, e, hb, _, hh, hc⟩ := h3 hl
  exact ⟨b, off, xs, t'', fz, e, by omega, .inl hb, hh, hc⟩
theorem OwnAt.renum {N0 N1 base : Nat} {t : TypeId} {w : World} {v : Value} {l : List (Int × Int)} (h : OwnAt (insR N1) t base w v l) : OwnAt (insR N0) t base w v l := by
  obtain ⟨css, ho, h1, h2⟩ := h
  exact ⟨css, ho, h1, h2⟩

set_option maxHeartbeats 4000000 in
set_option maxRecDepth 100000 in
theorem spoilt_any (N0 : Nat) (w : World) (A0 A1 A2 : Option Addr) (c0 c1 c2 : Nat) (fl : List (List (Int × Int))) (ml : List (Int × Int)) (cl : List Int) (size q0 q1 q2 q3 : Int) (hN : N0 ≤ w.heap.size) (h : ProgAt N0 w.heap.size w A0 A1 A2 c0 c1 c2 fl ml cl size) (hq0 : I64 q0) (hq1 : I64 q1) (hq2 : I64 q2) (hq3 : I64 q3)
    (hf : fl.length ≤ 30) (hfb : ∀ f ∈ fl, f.length ≤ 300) (hm : ml.length ≤ 300) :
    Calls Tryz.prog 15 #[.agg #[.slice A0 fl.length c0, .slice A1 ml.length c1, .slice A2 cl.length c2, .int .i64 size], .agg #[.int .i64 q0, .int .i64 q1, .int .i64 q2, .int .i64 q3]] w (ProgPost N0 w) := by
  obtain ⟨i0, hi, hz0, hz1, hz2⟩ := info_parts ins_info
  obtain ⟨i4, pi, pz0, pz1, pz2⟩ := info_parts coderow_info
  have H := Lib.hid h
  have HFB := Lib.hid hfb
  clear h hfb
  obtain ⟨w0, hw0⟩ : ∃ w0, w0 = ((w.alloc (.cells #[.slice A0 fl.length c0, .slice A1 ml.length c1, .slice A2 cl.length c2, .int .i64 size] 28)).alloc (.cells #[.int .i64 q0, .int .i64 q1, .int .i64 q2, .int .i64 q3] 23)).alloc (.cells #[.slice none 0 0, .slice none 0 0, .slice none 0 0, .int .i64 0] 28) := ⟨_, rfl⟩
  have hz : w0.heap.size = w.heap.size + 1 + 1 + 1 := by rw [hw0]; simp
  have hbl0 : Below w.heap.size w w0 := by rw [hw0]; exact (((Below.refl _ _).alloc (Nat.le_refl _) _).alloc (by simp) _).alloc (by simp; omega) _
  have hpb0 : Blk w0 w.heap.size 28 #[.slice A0 fl.length c0, .slice A1 ml.length c1, .slice A2 cl.length c2, .int .i64 size] := by rw [hw0]; exact ((Blk.new _ _ _).alloc _).alloc _
  have hqb0 : Blk w0 (w.heap.size + 1) 23 #[.int .i64 q0, .int .i64 q1, .int .i64 q2, .int .i64 q3] := by rw [hw0]; exact (Blk.new_at _ _ _ (by simp)).alloc _
  have hrb0 : Blk w0 (w.heap.size + 1 + 1) 28 #[.slice none 0 0, .slice none 0 0, .slice none 0 0, .int .i64 0] := by rw [hw0]; exact Blk.new_at _ _ _ (by simp)
  have hS0 : SpS N0 w #[.slice A0 fl.length c0, .slice A1 ml.length c1, .slice A2 cl.length c2, .int .i64 size] q0 q1 q2 q3 [] (.slice (some ⟨w0.heap.size, 0, none⟩) 0 0) (.slice none 0 0) [] (w0.alloc (.cells #[] 26)) :=
    ⟨hpb0.alloc _, hqb0.alloc _, hrb0.alloc _, OwnAt.empty _ (Blk.new _ _ _) (by omega), OwnAt.nil _ _ _ _, hbl0.alloc (by omega) _⟩
  have HS0 := Lib.hid hS0
  have HW0 := Lib.hid hw0
  have y := (hpb0.alloc (.cells #[] 26)).cell
  clear hw0 hS0 hpb0 hqb0 hrb0
  rw [HW0.out] at y
  have hp1 := H.out
  go_enter Tryz.func15, Tryz.ntmps15
  go_upto_region 1 with (fail)
  go_cut [5] (fun v wx => ∃ A3 c3, v = .slice A3 fl.length c3 ∧ SpS N0 w #[.slice A0 fl.length c0, .slice A1 ml.length c1, .slice A2 cl.length c2, .int .i64 size] q0 q1 q2 q3 fl (.slice A3 fl.length c3) (.slice none 0 0) [] wx)
  case first =>
    go_wp2_with (at_builtin; rw [← HW0.out]; refine wpList_pushAll _ rfl (.tmp 8) (.tmp 10) _ rfl (Repr.old w.heap.size (codeR N0)) w.heap.size 26 i4 _ 24 Tryz.underlying25 pi pz0 pz1 pz2 rfl (show 0 < 1 by decide) (by show 26 ∉ []; simp) (Nat.le_refl _) (.slice (some ⟨w0.heap.size, 0, none⟩) 0 0) [] (by simp [hz, go_sem]) HS0.out.l A0 fl.length c0 fl rfl rfl 26 ((H.out.f.2.2.below HS0.out.bl (Nat.le_refl _)).old HS0.out.bl.size) (by unfold maxLen; simp; omega) (by simp; omega) HS0.out.bl.size ?_; intro A3 c3 w3 hown3 hg3)
    simp only [List.length_nil, Nat.zero_add, List.nil_append] at hown3
    go_meet
    exact ⟨A3, c3, rfl, HS0.out.l' hg3 hown3⟩
  case rest =>
    clear HS0 y HW0 hz hbl0
    obtain ⟨A3, c3, rfl, hS⟩ := hcut
    have HS := Lib.hid hS
    have y := hS.qb.cell 0
    have y2 := hS.qb.lt
    simp only [List.getElem?_toArray, List.getElem?_cons_zero] at y
    clear hS hp1
    go_wp2_with fail
    refine (rest_any _ q0 _ hq0 (by omega) (by omega)).mono ?_
    rintro e w4 ⟨k, hk0, hk1, rfl, rfl⟩
    have y3 := HS.out.pb.cell
    have y4 := HS.out.pb.lt
    go_upto_region 3 with (fail)
    go_cut [7] (fun v wx => ∃ A5 c5, v = .slice A5 ml.length c5 ∧ SpS N0 w #[.slice A0 fl.length c0, .slice A1 ml.length c1, .slice A2 cl.length c2, .int .i64 size] q0 q1 q2 q3 fl (.slice A3 fl.length c3) (.slice A5 ml.length c5) ml wx)
    case first =>
      go_wp2_with (at_builtin; refine wpList_pushAll _ rfl (.tmp 18) (.tmp 20) _ rfl (insR w.heap.size) w.heap.size 61 i0 _ 16 Tryz.underlying26 hi hz0 hz1 hz2 rfl (show 0 < 2 by decide) (by show 61 ∉ []; simp) (Nat.le_refl _) (.slice (some ⟨w4.heap.size, 0, none⟩) 0 0) [] rfl (emptyCode _ _ HS.out.bl.size) A1 ml.length c1 ml rfl rfl 61 ((H.out.m.2.2.below (HS.out.alloc _).bl (Nat.le_refl _)).renum (HS.out.alloc _).bl.size) (by unfold maxLen; simp; omega) (by simp; omega) (HS.out.alloc _).bl.size ?_; intro A5 c5 w5 hown5 hg5)
      simp only [List.length_nil, Nat.zero_add, List.nil_append] at hown5
      go_meet
      exact ⟨A5, c5, rfl, (HS.out.alloc _).code' (emptyCode _ _ HS.out.bl.size) hg5 hown5⟩
    case rest =>
      clear HS y y2 y3 y4
      obtain ⟨A5, c5, rfl, hS⟩ := hcut
      have HS := Lib.hid hS
      clear hS
      go_upto_if 25 with (fail)
      go_cut [7] (fun v wx => ∃ A5 c5 cd, v = .slice A5 (List.length cd) c5 ∧ cd.length ≤ 300 ∧ SpS N0 w #[.slice A0 fl.length c0, .slice A1 ml.length c1, .slice A2 cl.length c2, .int .i64 size] q0 q1 q2 q3 fl (.slice A3 fl.length c3) (.slice A5 cd.length c5) cd wx)
      case first =>
        by_cases hk : k < (fl.length : Int)
        · obtain ⟨kn, rfl⟩ := Int.eq_ofNat_of_zero_le hk0
          obtain ⟨f, hfk⟩ : ∃ f, fl[kn]? = some f := ⟨_, List.getElem?_eq_getElem (by omega)⟩
          have hfl : f.length ≤ 300 := HFB.out f (List.mem_of_getElem? hfk)
          obtain ⟨g, cap, xs, cs, hv, hge, hgl, hgb, ⟨hBB, fA, fc, rfl, hf1, hf2, hfr⟩, hcell, hfz⟩ := (HS.out.alloc (.cells #[] 61)).l.elem hfk
          have hA : A3 = some ⟨g, 0, none⟩ := by injection hv
          subst hA
          have y := hcell 0 _ rfl
          simp only [Repr.old, codeR, Repr.row, Nat.mul_one, Nat.add_zero] at y
          have HFR := Lib.hid hfr
          clear hv hcell hfz hfk hfr hgb
          go_wp2_with (at_builtin; refine wpList_pushAll _ rfl (.tmp 26) (.tmp 30) _ rfl (insR w.heap.size) w.heap.size 61 i0 _ 16 Tryz.underlying26 hi hz0 hz1 hz2 rfl (show 0 < 2 by decide) (by show 61 ∉ []; simp) (Nat.le_refl _) (.slice (some ⟨wc.heap.size, 0, none⟩) 0 0) [] rfl (emptyCode _ _ HS.out.bl.size) fA f.length fc f rfl rfl 61 (HFR.out.renum (HS.out.alloc _).bl.size) (by unfold maxLen; simp; omega) (by simp; omega) (HS.out.alloc _).bl.size ?_; intro A6 c6 w6 hown6 hg6)
          simp only [List.length_nil, Nat.zero_add, List.nil_append] at hown6
          go_meet
          exact ⟨A6, c6, f, rfl, hfl, (HS.out.alloc _).code' (emptyCode _ _ HS.out.bl.size) hg6 hown6⟩
        · go_wp2_with fail
          go_meet
          exact ⟨A5, c5, ml, rfl, hm, HS.out⟩
      case rest =>
        clear HS
        obtain ⟨A5, c5, cd, rfl, hcd, hS⟩ := hcut
        have HS := Lib.hid hS
        clear hS
        go_upto_if 34 with (fail)
        go_cut [] (fun wx => ∃ cd', List.length cd' = cd.length ∧ SpS N0 w #[.slice A0 fl.length c0, .slice A1 ml.length c1, .slice A2 cl.length c2, .int .i64 size] q0 q1 q2 q3 fl (.slice A3 fl.length c3) (.slice A5 cd.length c5) cd' wx)
        case first =>
          by_cases hc0 : (0 : Int) < cd.length
          · have hSd := HS.out.drew
            have hSS : (fun w' : World => ∀ i, w'.cell? ⟨w.heap.size + 1, i, none⟩ = (#[.int .i64 q0, .int .i64 q1, .int .i64 q2, .int .i64 q3] : Array Value)[i]?) wc.drew := hSd.qb.cell
            obtain ⟨g, cap, xs, cs, hv, hge, hgl, hgb, hrel, hcell, hfz⟩ := hSd.code.elem (i := 0) (List.getElem?_eq_getElem (by omega))
            have hA : A5 = some ⟨g, 0, none⟩ := by injection hv
            subst hA
            have _hgl' : g < wc.heap.size := hgl
            clear hv hge hgl hgb hrel hcell hfz
            go_wp2_with fail
            refine wp_region_seq (fun i => !([5, 8, 11, 15] : List Nat).contains i) (fun i => ([2, 7, 10] : List Nat).contains i) (fun i => ([5, 8, 11] : List Nat).contains i) [0, 1, 2, 3, 4, 6, 7, 9, 10, 5, 8, 11, 12, 13, 14, 15] (fun w' : World => ∀ i, w'.cell? ⟨w.heap.size + 1, i, none⟩ = (#[.int .i64 q0, .int .i64 q1, .int .i64 q2, .int .i64 q3] : Array Value)[i]?) (by kernel_rfl) (by kernel_rfl) (by kernel_rfl) (by kernel_rfl) ?_
            refine wpSeq_pure (v := _) rfl rfl rfl (by kernel_rfl) (fun _ _ _ h => h) (fun wq => by first | (go_simp; done) | (go_simp; rfl)) ?_
            refine wpSeq_pure (v := _) rfl rfl rfl (by kernel_rfl) (fun _ _ _ h => h) (fun wq => by first | (go_simp; done) | (go_simp; rfl)) ?_
            refine wpSeq_load (v := _) rfl rfl (by kernel_rfl) (fun _ _ _ h => h) hSS rfl (fun wq hq => by (try dsimp only at hq); first | (go_simp; done) | (go_simp; rfl)) ?_
            refine wpSeq_pure (v := _) rfl rfl rfl (by kernel_rfl) (fun _ _ _ h => h) (fun wq => by first | (go_simp; done) | (go_simp; rfl)) ?_
            refine wpSeq_pure (v := _) rfl rfl rfl (by kernel_rfl) (fun _ _ _ h => h) (fun wq => by first | (go_simp; done) | (go_simp; rfl)) ?_
            refine wpSeq_pure (v := _) rfl rfl rfl (by kernel_rfl) (fun _ _ _ h => h) (fun wq => by first | (go_simp; done) | (go_simp; rfl)) ?_
            refine wpSeq_load (v := _) rfl rfl (by kernel_rfl) (fun _ _ _ h => h) hSS rfl (fun wq hq => by (try dsimp only at hq); first | (go_simp; done) | (go_simp; rfl)) ?_
            refine wpSeq_pure (v := _) rfl rfl rfl (by kernel_rfl) (fun _ _ _ h => h) (fun wq => by first | (go_simp; done) | (go_simp; rfl)) ?_
            refine wpSeq_load (v := _) rfl rfl (by kernel_rfl) (fun _ _ _ h => h) hSS rfl (fun wq hq => by (try dsimp only at hq); first | (go_simp; done) | (go_simp; rfl)) ?_
            refine wpSeq_heavy rfl rfl (fun K hK => ?_); go_simp
            refine (rest_any _ q1 _ hq1 (by omega) (by omega)).mono ?_
            rintro e w5 ⟨r1, hr10, hr11, rfl, rfl⟩
            dsimp only
            refine hK _ _ (fun _ => hSS) ?_; clear hK K
            refine wpSeq_heavy rfl rfl (fun K hK => ?_); go_simp
            refine (rest_any _ q2 _ hq2 (by omega) (by omega)).mono ?_
            rintro e w6 ⟨r2, hr20, hr21, rfl, rfl⟩
            dsimp only
            refine hK _ _ (fun _ => hSS) ?_; clear hK K
            refine wpSeq_heavy rfl rfl (fun K hK => ?_); go_simp
            refine (rest_any _ q3 _ hq3 (by omega) (by omega)).mono ?_
            rintro e w7 ⟨r3, hr30, hr31, rfl, rfl⟩
            dsimp only
            refine hK _ _ (fun _ => hSS) ?_; clear hK K
            obtain ⟨rn, rfl⟩ := Int.eq_ofNat_of_zero_le hr10
            obtain ⟨⟨op0, a0⟩, hcr⟩ : ∃ x, cd[rn]? = some x := ⟨_, List.getElem?_eq_getElem (by omega)⟩
            obtain ⟨g', cap', xs', cs', hv', hge', hgl'', hgb', hrel', hcell', hfz'⟩ := hSd.code.elem hcr
            have hgg : g = g' := by injection hv' with h1; injection h1 with h1; injection h1 with h1
            subst hgg
            obtain rfl := insR_eq hrel'
            have b0 := hcell' 0 _ rfl
            have b1 := hcell' 1 _ rfl
            simp only [insR, Repr.pair, Repr.int, Nat.add_zero, Nat.reduceAdd] at b0 b1
            have hI64 := insR_i64 hrel'
            have hS1 := hSd.setCode (a' := (r2, a0)) (j := 0) hcr (by omega) (.int .i64 r2) (fun cs h => by obtain rfl := insR_eq h; exact insR_mk _ _ _ _ _ (by unfold I64; omega) hI64.2) rfl
            have hS2 := hS1.setCode (i := rn) (a := (r2, a0)) (a' := (r2, IntKind.i64.wrap (r3 - 2))) (j := 1) (by rw [List.getElem?_set_self (by omega)]) (by omega) (.int .i64 (IntKind.i64.wrap (r3 - 2))) (fun cs h => by obtain rfl := insR_eq h; exact insR_mk _ _ _ _ _ (by unfold I64; omega) (i64_wrap _)) rfl
            simp only [Nat.add_zero] at hS2
            have f0 := hfz' (rn * 2)
            have f1 := hfz' (rn * 2 + 1)
            have _b0' : wc.cell? ⟨g, rn * 2, none⟩ = some (.int .i64 op0) := b0
            have _b1' : wc.cell? ⟨g, rn * 2 + 1, none⟩ = some (.int .i64 a0) := b1
            have _f0' : wc.frozen? ⟨g, rn * 2, none⟩ = false := f0
            have _f1' : wc.frozen? ⟨g, rn * 2 + 1, none⟩ = false := f1
            refine wpSeq_pure (v := _) rfl rfl rfl (by kernel_rfl) (fun _ _ _ h => h) (fun wq => by first | (go_simp; done) | (go_simp; rfl)) ?_
            refine wpSeq_pure (v := _) rfl rfl rfl (by kernel_rfl) (fun _ _ _ h => h) (fun wq => by first | (go_simp; done) | (go_simp; rfl)) ?_
            refine wpSeq_pure (v := _) rfl rfl rfl (by kernel_rfl) (fun _ _ _ h => h) (fun wq => by first | (go_simp; done) | (go_simp; rfl)) ?_
            refine wpSeq_heavy rfl rfl (fun K hK => ?_); go_simp
            refine hK _ _ (fun h => by cases h) ?_; clear hK K
            refine wpSeq_end ?_
            go_wp2_with fail
            go_meet
            exact ⟨_, by simp, hS2⟩
          · go_wp2_with fail
            go_meet
            exact ⟨cd, rfl, HS.out⟩
        case rest =>
          clear HS
          obtain ⟨cd', hcd', hS⟩ := hcut
          have hcl1 : cd'.length ≤ 300 := by omega
          obtain ⟨A6, c6, hcv, hc61, hc62, hcrow⟩ := hS.code.form
          rw [← hcd'] at hS ⊢
          obtain ⟨rfl, rfl⟩ : A5 = A6 ∧ c5 = c6 := by injection hcv with h1 h2 h3; exact ⟨h1, h3⟩
          have HS := Lib.hid hS
          clear hS hcv hcd' hcd hcrow
          go_upto_if 53 with (fail)
          go_cut [] (fun wx => PBox N0 w w.heap.size wx ∧ Blk wx (w.heap.size + 1 + 1) 28 #[.slice none 0 0, .slice none 0 0, .slice none 0 0, .int .i64 0])
          case first =>
            have _hM := HS.out.bl.size
            by_cases hk : k < (fl.length : Int)
            · obtain ⟨kn, rfl⟩ := Int.eq_ofNat_of_zero_le hk0
              obtain ⟨f, hfk⟩ : ∃ f, fl[kn]? = some f := ⟨_, List.getElem?_eq_getElem (by omega)⟩
              obtain ⟨g, cap, xs, cs, hv, hge, hgl, hgb, hrel, hcell, hfz⟩ := HS.out.l.elem hfk
              have hA : A3 = some ⟨g, 0, none⟩ := by injection hv
              subst hA
              obtain ⟨u, rfl⟩ : ∃ u, cs = [u] := by obtain ⟨_, fA, fc, rfl, _⟩ := hrel; exact ⟨_, rfl⟩
              have y := hcell 0 _ rfl
              simp only [Repr.old, codeR, Repr.row, Nat.mul_one, Nat.add_zero] at y
              have _y1 := hfz kn
              have p0 := HS.out.pb.cell 0
              have _p1 := HS.out.pb.frozen 0
              have _p2 := HS.out.pb.lt
              simp only [List.getElem?_toArray, List.getElem?_cons_zero] at p0
              have hgne : g ≠ w.heap.size := by
                rintro rfl
                have h1 := HS.out.pb
                unfold Blk at h1 hgb
                rw [hgb] at h1
                injection h1 with h1
                injection h1 with _ h2
                exact absurd h2 (by decide)
              have hown1 : OwnAt (codeR N0) 26 w.heap.size (wc.setCell ⟨g, kn, none⟩ (.slice A5 cd'.length c5)) (.slice (some ⟨g, 0, none⟩) fl.length c3) (fl.set kn cd') := by
                have := (HS.out.l.ofOld).upd (j := 0) (a' := cd') hfk (show 0 < 1 by decide) (.slice A5 cd'.length c5) (by show 26 ∉ [61]; decide) hN (fun cs h => by
                  obtain ⟨fA, fc, rfl, _⟩ := h
                  obtain ⟨A7, c7, e7, h71, h72, h73⟩ := (HS.out.code.renum (N0 := N0)).form
                  injection e7 with e71 e72 e73
                  subst e71 e73
                  exact ⟨_, _, rfl, h71, h72, h73⟩) rfl
                simpa [codeR, Repr.row] using this
              have hpb1 := HS.out.pb.far (p := ⟨g, kn, none⟩) (Ne.symm hgne) (.slice A5 cd'.length c5)
              have hown2 := hown1.setCell hpb1 (by show 28 ∉ [26, 61]; decide) hN 0 (.slice (some ⟨g, 0, none⟩) fl.length c3)
              have hbl2 : Below w.heap.size w ((wc.setCell ⟨g, kn, none⟩ (.slice A5 cd'.length c5)).setCell ⟨w.heap.size, 0, none⟩ (.slice (some ⟨g, 0, none⟩) fl.length c3)) := (HS.out.bl.setCell (p := ⟨g, kn, none⟩) hge _).setCell (p := ⟨w.heap.size, 0, none⟩) (Nat.le_refl _) _
              have hfin : PBox N0 w w.heap.size ((wc.setCell ⟨g, kn, none⟩ (.slice A5 cd'.length c5)).setCell ⟨w.heap.size, 0, none⟩ (.slice (some ⟨g, 0, none⟩) fl.length c3)) := by
                obtain ⟨A7, c7, e7, h71, h72, h73⟩ := hown2.form
                have hlen : (fl.set kn cd').length = fl.length := by simp
                rw [hlen] at e7
                injection e7 with e71 e72 e73
                subst e71 e73
                refine ⟨_, A1, A2, _, c1, c2, fl.set kn cd', ml, cl, size, by rw [hlen]; simpa using hpb1.set_ 0 (.slice (some ⟨g, 0, none⟩) fl.length c3), ⟨⟨h71, h72, h73⟩, ⟨H.out.m.1, H.out.m.2.1, (H.out.m.2.2.below hbl2 (Nat.le_refl _)).more hbl2.size⟩, ⟨H.out.c.1, H.out.c.2.1, (H.out.c.2.2.below hbl2 (Nat.le_refl _)).more hbl2.size⟩, H.out.s, H.out.k⟩, by rw [hlen]; exact hf, fun f' hf' => ?_, hm, hbl2⟩
                rcases List.mem_or_eq_of_mem_set hf' with h | h
                · exact HFB.out f' h
                · subst h; exact hcl1
              have hrbne : w.heap.size + 1 + 1 ≠ g := by
                rintro rfl
                have h1 := HS.out.rb
                unfold Blk at h1 hgb
                rw [hgb] at h1
                injection h1 with h1
                injection h1 with _ h2
                exact absurd h2 (by decide)
              have hrb2 := (HS.out.rb.far (p := ⟨g, kn, none⟩) hrbne (.slice A5 cd'.length c5)).far (p := ⟨w.heap.size, 0, none⟩) (by simp only; omega) (.slice (some ⟨g, 0, none⟩) fl.length c3)
              have HF := Lib.hid hfin
              have HRB := Lib.hid hrb2
              clear hfin hrb2 hbl2 hown1 hown2 hpb1 hv hcell hfz hgb hrel
              go_wp2_with fail
              go_meet
              exact ⟨HF.out, HRB.out⟩
            · have p0 := HS.out.pb.cell 1
              have _p1 := HS.out.pb.frozen 1
              have _p2 := HS.out.pb.lt
              simp only [List.getElem?_toArray, List.getElem?_cons_zero, List.getElem?_cons_succ] at p0
              have hbl2 : Below w.heap.size w (wc.setCell ⟨w.heap.size, 1, none⟩ (.slice A5 cd'.length c5)) := HS.out.bl.setCell (p := ⟨w.heap.size, 1, none⟩) (Nat.le_refl _) _
              have hcode2 := (HS.out.code.renum (N0 := N0)).setCell HS.out.pb (by show 28 ∉ [61]; decide) hN 1 (.slice A5 cd'.length c5)
              have hfin : PBox N0 w w.heap.size (wc.setCell ⟨w.heap.size, 1, none⟩ (.slice A5 cd'.length c5)) := by
                obtain ⟨A7, c7, e7, h71, h72, h73⟩ := hcode2.form
                injection e7 with e71 e72 e73
                subst e71 e73
                exact ⟨A0, _, A2, c0, _, c2, fl, cd', cl, size, by simpa using HS.out.pb.set_ 1 (.slice A5 cd'.length c5), ⟨⟨H.out.f.1, H.out.f.2.1, (H.out.f.2.2.below hbl2 (Nat.le_refl _)).more hbl2.size⟩, ⟨h71, h72, h73⟩, ⟨H.out.c.1, H.out.c.2.1, (H.out.c.2.2.below hbl2 (Nat.le_refl _)).more hbl2.size⟩, H.out.s, H.out.k⟩, hf, HFB.out, hcl1, hbl2⟩
              have hrb2 := HS.out.rb.far (p := ⟨w.heap.size, 1, none⟩) (by simp only; omega) (.slice A5 cd'.length c5)
              have HF := Lib.hid hfin
              have HRB := Lib.hid hrb2
              clear hfin hrb2 hbl2 hcode2
              go_wp2_with fail
              go_meet
              exact ⟨HF.out, HRB.out⟩
          case rest =>
            clear HS H HFB hf hm hcl1 hc61 hc62
            obtain ⟨⟨A0, A1, A2, c0, c1, c2, fl, ml, cl, size, hpb, hpr, h1, h2, h3, h4⟩, hrb⟩ := hcut
            have _p0 := hpb.cell
            have _p2 := hpb.lt
            have q := hrb.cell
            have _z := hrb.frozen
            have _q2 := hrb.lt
            have hfin : ProgPost N0 w (.returned (.agg #[.slice A0 fl.length c0, .slice A1 ml.length c1, .slice A2 cl.length c2, .int .i64 size])) ((((wc.setCell ⟨w.heap.size + 1 + 1, 0, none⟩ (.slice A0 fl.length c0)).setCell ⟨w.heap.size + 1 + 1, 1, none⟩ (.slice A1 ml.length c1)).setCell ⟨w.heap.size + 1 + 1, 2, none⟩ (.slice A2 cl.length c2)).setCell ⟨w.heap.size + 1 + 1, 3, none⟩ (.int .i64 size)) := by
              have hNN : N0 ≤ w.heap.size + 1 + 1 := by omega
              refine ⟨A0, A1, A2, c0, c1, c2, fl, ml, cl, size, rfl, ?_, h1, h2, h3, ?_⟩
              · simp only [size_setCell]
                exact (((hpr.setCell hrb hNN 0 _).setCell (hrb.set_ 0 _) hNN 1 _).setCell ((hrb.set_ 0 _).set_ 1 _) hNN 2 _).setCell (((hrb.set_ 0 _).set_ 1 _).set_ 2 _) hNN 3 _
              · have hle : w.heap.size ≤ w.heap.size + 1 + 1 := by omega
                exact (((h4.setCell (p := ⟨w.heap.size + 1 + 1, 0, none⟩) hle _).setCell (p := ⟨w.heap.size + 1 + 1, 1, none⟩) hle _).setCell (p := ⟨w.heap.size + 1 + 1, 2, none⟩) hle _).setCell (p := ⟨w.heap.size + 1 + 1, 3, none⟩) hle _
            have HF := Lib.hid hfin
            clear hfin hpb hpr h1 h2 h3 h4 hrb
            go_wp2
            refine bodyPost_ret (v := .agg #[.slice A0 fl.length c0, .slice A1 ml.length c1, .slice A2 cl.length c2, .int .i64 size]) (by simp [results, Tryz.results15, go_sem, q]) rfl ?_
            exact HF.out
end Go.Proofs.YthdmdgmchkhngaaGreat
