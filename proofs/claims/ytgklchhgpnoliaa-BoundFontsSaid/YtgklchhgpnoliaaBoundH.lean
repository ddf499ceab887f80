/- bound's look, on the ways that do not come to its loop. -/
import Derived.Test.YtgklchhgpnoliaaBoundG
import Derived.BigRegion
namespace Go.Proofs.Ytgklchhgpnoliaa
open Go.RowKit

/-- what a proof is in memory: its struct in block P, its places in block G -/
structure PfAt (w : World) (P G B : Nat) (Ac Af : Option Addr) (n cc m cf : Nat) (fs : List Bd.Cost) (s : Bd.St) : Prop where
  hP : Blk w P 85 #[.slice Ac n cc, .slice Af m cf, .slice (some ⟨G, 0, none⟩) (n + 1) (n + 1), .int .i64 s.need, .int .i64 s.peak]
  hG : Blk w G 82 (plCells s.pl).toArray
  hF : Reads w B 4 Af m (costCells fs)
  hB : B ≤ w.heap.size
  hBP : B ≤ P
  hBG : B ≤ G
  hm : m = fs.length
  hl : s.pl.length = n + 1

/-- what look leaves -/
structure LookPost (w : World) (P G B : Nat) (Ac Af : Option Addr) (n cc m cf : Nat) (fs : List Bd.Cost) (r : Int × Bd.St) (e : Ending) (w' : World) : Prop where
  ret : e = .returned (.int .i64 r.1)
  pf : PfAt w' P G B Ac Af n cc m cf fs r.2
  fr : Fr (fun k => k = P ∨ k = G) w w'

theorem PfAt.below {w w' : World} {P G B : Nat} {Ac Af : Option Addr} {n cc m cf : Nat} {fs : List Bd.Cost} {s : Bd.St} (h : PfAt w P G B Ac Af n cc m cf fs s) (hb : Below w.heap.size w w') : PfAt w' P G B Ac Af n cc m cf fs s :=
  ⟨h.hP.below hb h.hP.lt, h.hG.below hb h.hG.lt, h.hF.below hb h.hB, Nat.le_trans h.hB hb.size, h.hBP, h.hBG, h.hm, h.hl⟩

set_option maxHeartbeats 1000000 in
theorem look_A (P G B : Nat) (Ac Af : Option Addr) (n cc m cf : Nat) (fs : List Bd.Cost) (s : Bd.St) (at_ op a : Int) (w : World) (h : PfAt w P G B Ac Af n cc m cf fs s) (ha0 : 0 ≤ at_) (ha1 : at_ < n) (hn : n ≤ 1000000000000000)
    (hal : Bd.always n fs.length at_ (op, a) ≠ 0) :
    Calls Try.prog 27 #[.pointer (some ⟨P, 0, none⟩), .int .i64 at_, .agg #[.int .i64 op, .int .i64 a]] w (LookPost w P G B Ac Af n cc m cf fs (Bd.look n fs s at_ (op, a))) := by
  have hlook : Bd.look n fs s at_ (op, a) = (Bd.always n m at_ (op, a), s) := by unfold Bd.look; rw [if_pos hal, h.hm]
  have hal' : (Bd.always n m at_ (op, a) != 0) = true := by rw [h.hm]; simpa using hal
  rw [hlook]
  have hPl := h.hP.lt
  have H := Lib.hid h
  have HP := Lib.hid h.hP
  clear hlook hal h
  go_enter Try.func27, Try.ntmps27
  go_wp2_with fail
  refine (always_any _ at_ op a _).mono ?_
  rintro e w' ⟨rfl, rfl⟩
  go_wp2_with fail
  refine (first_always (w.heap.size + 1 + 1 + 1 + 1 + 1) (w.heap.size + 1 + 1 + 1 + 1) (w.heap.size + 1 + 1) (w.heap.size + 1 + 1 + 1) P op a at_ Ac Af n cc m cf _ _ _ _ (Blk.new_at _ _ _ (by simp)) ((Blk.new_at _ _ _ (by simp)).alloc _) ((((Blk.new_at _ _ _ (by simp)).alloc _).alloc _).alloc _) (((Blk.new_at _ _ _ (by simp)).alloc _).alloc _) (by exact (((((HP.out.alloc _).alloc _).alloc _).alloc _).alloc _).alloc _) ha0 (by omega) hn).mono ?_
  rintro e w' ⟨rfl, hb⟩
  have hbw : Below w.heap.size w w' := Below.trans (by repeat (first | exact Below.refl _ _ | assumption | (refine Below.setCell ?_ (by first | omega | (simp; done) | (simp; omega)) _) | (refine Below.drew ?_) | (refine below_drewN ?_ _) | (refine Below.alloc ?_ (by first | omega | (simp; done) | (simp; omega)) _))) (hb.mono (by first | omega | (simp; done) | (simp; omega) | (simp only [World.size_alloc, World.size_drew]; omega)))
  clear hb
  generalize Bd.always n m at_ (op, a) = r at *
  go_wp2
  go_ret
  exact ⟨rfl, H.out.below hbw, Fr.of_below hbw (fun k hk _ => hk)⟩
set_option maxHeartbeats 1000000 in
theorem look_B (P G B : Nat) (Ac Af : Option Addr) (n cc m cf : Nat) (fs : List Bd.Cost) (s : Bd.St) (at_ op a : Int) (w : World) (h : PfAt w P G B Ac Af n cc m cf fs s) (ha0 : 0 ≤ at_) (ha1 : at_ < n) (hn : n ≤ 1000000000000000)
    (hal : Bd.always n fs.length at_ (op, a) = 0) (hk : (Bd.pat s.pl at_).known = false) :
    Calls Try.prog 27 #[.pointer (some ⟨P, 0, none⟩), .int .i64 at_, .agg #[.int .i64 op, .int .i64 a]] w (LookPost w P G B Ac Af n cc m cf fs (Bd.look n fs s at_ (op, a))) := by
  have hlook : Bd.look n fs s at_ (op, a) = (0, s) := by unfold Bd.look; rw [if_neg (by rw [hal]; simp), if_pos hk]
  have HAL := Lib.hid (show Bd.always n m at_ (op, a) = 0 by rw [h.hm]; exact hal)
  rw [hlook]
  have hPl := h.hP.lt
  have hGl := h.hG.lt
  have H := Lib.hid h
  have HP := Lib.hid h.hP
  obtain ⟨an, rfl⟩ := Int.eq_ofNat_of_zero_le ha0
  obtain ⟨q, hq⟩ : ∃ q, s.pl[an]? = some q := ⟨_, List.getElem?_eq_getElem (by have := h.hl; omega)⟩
  have hpat : Bd.pat s.pl (an : Int) = q := by unfold Bd.pat; rw [List.getD_eq_getElem?_getD]; simp [hq]
  rw [hpat] at hk
  obtain ⟨g0, g1, g2⟩ := plCells_at s.pl an q hq
  clear hlook hal h hq hpat
  obtain ⟨qk, qh, qs⟩ := q
  simp only at hk g0 g1 g2
  subst hk
  go_enter Try.func27, Try.ntmps27
  go_wp2_with fail
  refine (always_any _ an op a _).mono ?_
  rintro e w' ⟨rfl, rfl⟩
  go_wp2_with fail
  refine (first_always (w.heap.size + 1 + 1 + 1 + 1 + 1) (w.heap.size + 1 + 1 + 1 + 1) (w.heap.size + 1 + 1) (w.heap.size + 1 + 1 + 1) P op a an Ac Af n cc m cf _ _ _ _ (Blk.new_at _ _ _ (by simp)) ((Blk.new_at _ _ _ (by simp)).alloc _) ((((Blk.new_at _ _ _ (by simp)).alloc _).alloc _).alloc _) (((Blk.new_at _ _ _ (by simp)).alloc _).alloc _) (by exact (((((HP.out.alloc _).alloc _).alloc _).alloc _).alloc _).alloc _) ha0 (by omega) hn).mono ?_
  rintro e w1 ⟨rfl, hb⟩
  have hbw : Below w.heap.size w w1 := Below.trans (by repeat (first | exact Below.refl _ _ | assumption | (refine Below.setCell ?_ (by first | omega | (simp; done) | (simp; omega)) _) | (refine Below.drew ?_) | (refine below_drewN ?_ _) | (refine Below.alloc ?_ (by first | omega | (simp; done) | (simp; omega)) _))) (hb.mono (by first | omega | (simp; done) | (simp; omega) | (simp only [World.size_alloc, World.size_drew]; omega)))
  have v0 : Blk w1 w.heap.size 78 #[.pointer (some ⟨P, 0, none⟩)] := Blk.below ((((((Blk.new_at _ _ _ (by simp)).alloc _).alloc _).alloc _).alloc _).alloc _) hb (by first | omega | (simp; done) | (simp; omega) | (simp only [World.size_alloc, World.size_drew]; omega))
  have v1 : Blk w1 (w.heap.size + 1) 25 #[.int .i64 op, .int .i64 a] := Blk.below (((((Blk.new_at _ _ _ (by simp)).alloc _).alloc _).alloc _).alloc _) hb (by first | omega | (simp; done) | (simp; omega) | (simp only [World.size_alloc, World.size_drew]; omega))
  have hz1 : w.heap.size + 6 ≤ w1.heap.size := by have := hb.size; simp at this; omega
  rw [HAL.out]
  clear hb
  have u0 : w1.cell? ⟨w.heap.size, 0, none⟩ = some (.pointer (some ⟨P, 0, none⟩)) := by rw [v0.cell]; rfl
  have u1 : w1.cell? ⟨P, 2, none⟩ = some (.slice (some ⟨G, 0, none⟩) (n + 1) (n + 1)) := by rw [(HP.out.below hbw hPl).cell]; rfl
  have d0 : w1.cell? ⟨G, an * 3, none⟩ = some (.bool false) := by rw [(H.out.hG.below hbw hGl).cell]; simpa using g0
  have d1 : w1.cell? ⟨G, an * 3 + 1, none⟩ = some (.int .i64 qh) := by rw [(H.out.hG.below hbw hGl).cell]; simpa using g1
  have d2 : w1.cell? ⟨G, an * 3 + 2, none⟩ = some (.int .i64 qs) := by rw [(H.out.hG.below hbw hGl).cell]; simpa using g2
  have hlt : an < n + 1 := by omega
  clear g0 g1 g2 v0 v1
  go_wp2
  go_ret
  have hbw2 := hbw.alloc (by omega) (.cells #[.bool false, .int .i64 qh, .int .i64 qs] 82)
  exact ⟨rfl, H.out.below hbw2, Fr.of_below hbw2 (fun k hk _ => hk)⟩
theorem effect_any (P G B : Nat) (Ac Af : Option Addr) (n cc m cf : Nat) (fs : List Bd.Cost) (s : Bd.St) (at_ op a : Int) (w : World) (h : PfAt w P G B Ac Af n cc m cf fs s) (q : Bd.Place) (hq : Bd.okP q) (hfs : fs.all Bd.mayBe = true) (hal : Bd.always n fs.length at_ (op, a) = 0) :
    Calls Try.prog 39 #[.pointer (some ⟨P, 0, none⟩), .agg #[.bool q.known, .int .i64 q.high, .int .i64 q.steps], .agg #[.int .i64 op, .int .i64 a]] w fun e w' => e = .returned (.agg #[.int .i64 (Bd.effect fs q (op, a)).need, .int .i64 (Bd.effect fs q (op, a)).peak, .int .i64 (Bd.effect fs q (op, a)).high, .int .i64 (Bd.effect fs q (op, a)).steps]) ∧ Below w.heap.size w w' := by
  obtain ⟨q1, q2, q3, q4⟩ := hq
  cases hc : Bd.calls op with
  | false =>
    have e : Bd.effect fs q (op, a) = ⟨Bd.takes op - q.high, q.high - Bd.takes op + Bd.leaves op, q.high - Bd.takes op + Bd.leaves op, q.steps + 1⟩ := by
      unfold Bd.effect; simp only; rw [if_neg (by rw [hc]; simp)]
    rw [e]
    exact effect_plain _ _ _ _ _ _ _ q1 q2 q3 q4 hc
  | true =>
    have hab : 0 ≤ a ∧ a < fs.length := by
      unfold Bd.always at hal
      simp only at hal
      split at hal
      · simp at hal
      · split at hal
        · simp at hal
        · split at hal
          · simp at hal
          · rename_i h3; simp [hc] at h3; exact h3
    exact effect_call P B 0 _ _ _ _ Af m cf fs q.known q.high q.steps op a w q1 q2 q3 q4 hc h.hP h.hF h.hB h.hm hab.1 (by rw [h.hm]; exact hab.2) hfs rfl
end Go.Proofs.Ytgklchhgpnoliaa
