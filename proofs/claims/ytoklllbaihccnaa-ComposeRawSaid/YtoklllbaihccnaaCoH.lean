/- slices.Sort of at most twelve ints: an insertion sort. -/
import Derived.Test.YtoklllbaihccnaaCoD
import Derived.Test.YtoklllbaihccnaaCoP
import Derived.Lib.Strings
import Derived.Lib.Slices
import Derived.Lib.Small
import Derived.Lib.Walk
import Derived.Lib.BitFns
set_option linter.unusedVariables false
set_option linter.unusedSimpArgs false
namespace Go.Proofs.Ytoklllbaihccnaa
open Go.RowKit
namespace Is
open Hp
def ins : Nat → List Int → Nat → List Int
  | 0, l, _ => l
  | f + 1, l, j => if j = 0 then l else if at_ l j < at_ l (j - 1) then ins f (swap l j (j - 1)) (j - 1) else l
def sortTo : Nat → List Int → List Int
  | 0, l => l
  | k + 1, l => ins (k + 1) (sortTo k l) k
def sort (l : List Int) : List Int := sortTo l.length l
theorem ins_len : ∀ (f : Nat) (l : List Int) (j : Nat), (ins f l j).length = l.length
  | 0, _, _ => rfl
  | f + 1, l, j => by
    unfold ins
    split
    · rfl
    · split
      · rw [ins_len f, swap_len]
      · rfl
theorem sortTo_len : ∀ (k : Nat) (l : List Int), (sortTo k l).length = l.length
  | 0, _ => rfl
  | k + 1, l => by unfold sortTo; rw [ins_len, sortTo_len k]
end Is
/-- a row of ints, known whole -/
structure SRow (w : World) (base g c : Nat) (l : List Int) : Prop where
  row : w.ownsRow base 3 1 (.slice (some ⟨g, 0, none⟩) l.length c) l.length (ints l)
theorem SRow.at_ {w : World} {base g c : Nat} {l : List Int} (h : SRow w base g c l) {i : Nat} (hi : i < l.length) : w.cell? ⟨g, i, none⟩ = some (.int .i64 (Hp.at_ l i)) ∧ w.frozen? ⟨g, i, none⟩ = false := by
  obtain ⟨cs, hb, _, _, hc⟩ := owns_blk h.row
  refine ⟨?_, hb.frozen i⟩
  rw [hb.cell]
  exact hc _ _ (ints_at l i _ (by simp [Hp.at_, List.getElem?_eq_getElem hi]))
theorem SRow.drewN {w : World} {base g c : Nat} {l : List Int} (h : SRow w base g c l) (k : Nat) : SRow (w.drewN k) base g c l := ⟨owns_keep h.row fun _ _ => rfl⟩
theorem SRow.swap {w : World} {base g c : Nat} {l : List Int} (h : SRow w base g c l) {i j : Nat} (k : Nat) :
    SRow (((w.setCell ⟨g, i, none⟩ (.int .i64 (Hp.at_ l j))).setCell ⟨g, j, none⟩ (.int .i64 (Hp.at_ l i))).drewN k) base g c (Hp.swap l i j) := by
  have hl := Hp.swap_len l i j
  have e : ints (Hp.swap l i j) = ((ints l).set i (.int .i64 (Hp.at_ l j))).set j (.int .i64 (Hp.at_ l i)) := by simp [Hp.swap, ints_set]
  refine SRow.drewN ⟨?_⟩ k
  rw [hl, e]; exact (((h.row).stored i _).1.stored j _).1

set_option maxHeartbeats 400000 in
theorem cless_any (x y : Int) (w : World) : Calls Try.prog 66 #[.int .i64 x, .int .i64 y] w fun e w' => e = .returned (.bool (decide (x < y))) ∧ w' = w := by
  go_enter Try.func66, Try.ntmps66
  go_wp2
  go_ret
  exact ⟨ret_bool (by simp), rfl⟩
set_option maxHeartbeats 4000000 in
set_option maxRecDepth 100000 in
theorem len64_small (x : Int) (w : World) (h0 : 0 ≤ x) (h1 : x ≤ 12) :
    Calls Try.prog 70 #[.int .u64 x] w fun e w' => (∃ v, e = .returned (.int .i64 v)) ∧ w' = w := by
  have hsz : (Lib.len8tab.size : Int) = 256 := by rw [Lib.len8tab_size]; rfl
  go_enter Try.func70, Try.ntmps70
  go_wp2
  go_ret
  exact ⟨⟨_, rfl⟩, rfl⟩
set_option maxHeartbeats 400000 in
theorem len_small (x : Int) (w : World) (h0 : 0 ≤ x) (h1 : x ≤ 12) :
    Calls Try.prog 46 #[.int .u64 x] w fun e w' => (∃ v, e = .returned (.int .i64 v)) ∧ w' = w := by
  go_enter Try.func46, Try.ntmps46
  go_wp2_with (go_at_call 70; refine (len64_small _ _ (by omega) (by omega)).mono ?_; rintro e w' ⟨⟨v, rfl⟩, rfl⟩)
  go_ret
  exact ⟨⟨_, rfl⟩, rfl⟩

set_option maxRecDepth 100000 in
set_option maxHeartbeats 2000000 in
theorem isort_any (base g c n : Nat) (l : List Int) (w : World) (h : SRow w base g c l) (hn : l.length = n) (h12 : n ≤ 12) :
    Calls Try.prog 60 #[.slice (some ⟨g, 0, none⟩) n c, .int .i64 0, .int .i64 n] w fun e w' => e = .returned (.tuple #[]) ∧ SRow w' base g c (Is.sort l) ∧ Fr (· = g) w w' := by
  have H := Lib.hid h
  obtain ⟨R, hR⟩ : ∃ R, Is.sort l = R := ⟨_, rfl⟩
  rw [hR]
  have HR : Hid (Is.sortTo n l = R) := Lib.hid (by rw [← hR, ← hn]; rfl)
  have HN := Lib.hid hn
  clear h hR hn
  go_enter Try.func60, Try.ntmps60
  go_wp2_with fail
  go_loopw [6] (fun i wr => ∃ (k : Nat) (l' : List Int), i = .int .i64 k ∧ 1 ≤ k ∧ (k ≤ n ∨ (n = 0 ∧ k = 1)) ∧ (k ≤ n → Is.sortTo k l = l') ∧ (n = 0 → l = l') ∧ l'.length = n ∧ SRow wr base g c l' ∧ Fr (· = g) w wr) (fun i _ => n - (intOf i).toNat)
  case atStart =>
    refine ⟨1, l, by go_num, Nat.le_refl _, by omega, fun _ => ?_, fun _ => rfl, HN.out, H.out, Fr.refl _ _⟩
    unfold Is.sortTo Is.sortTo Is.ins
    rfl
  case round =>
    obtain ⟨k, l', rfl, hk1, hk, hs, hs0, hl', hH, hF⟩ := hrel
    have HH := Lib.hid hH
    have HF := Lib.hid hF
    have HL := Lib.hid hl'
    have HS := Lib.hid hs
    have HS0 := Lib.hid hs0
    clear hs hs0 hl' hH hF H
    by_cases hlt : k < n
    · go_wp2_with fail
      obtain ⟨R2, hR2⟩ : ∃ R2, Is.ins (k + 1) l' k = R2 := ⟨_, rfl⟩
      have HR2 := Lib.hid hR2
      clear hR2
      go_loopw [7] (fun i wr => ∃ (j f : Nat) (l2 : List Int), i = .int .i64 j ∧ j ≤ k ∧ j < f ∧ Is.ins f l2 j = R2 ∧ l2.length = n ∧ SRow wr base g c l2 ∧ Fr (· = g) w wr) (fun i _ => (intOf i).toNat)
      case atStart => exact ⟨k, k + 1, l', rfl, Nat.le_refl _, by omega, HR2.out, HL.out, HH.out, HF.out⟩
      case round =>
        obtain ⟨j, f, l2, rfl, hj, hf, hd, hl2, hH, hF⟩ := hrel
        have HH2 := Lib.hid hH
        have HF2 := Lib.hid hF
        have HL2 := Lib.hid hl2
        obtain ⟨f, rfl⟩ : ∃ f', f = f' + 1 := ⟨f - 1, by omega⟩
        unfold Is.ins at hd
        have HD := Lib.hid hd
        clear hl2 hH hF HH HF HL hd
        have hmore : ∀ (l3 : List Int), Is.ins (k + 1) l' k = l3 → Is.sortTo (k + 1) l = l3 := fun l3 e => by rw [← e, ← HS.out (by omega)]; rfl
        have HMO := Lib.hid hmore
        clear hmore
        by_cases h0 : j = 0
        · subst h0
          have hd := HD.out
          rw [if_pos rfl] at hd
          subst hd
          have h3 : decide ((0 : Int) < 0) = false := by decide
          go_wp2_with fail
          go_quiet (fail)
          go_wp2_with fail
          go_roundw
          case rel => exact ⟨k + 1, _, by go_num, by omega, .inl (by omega), fun _ => HMO.out _ HR2.out, fun e => by omega, HL2.out, HH2.out.drewN _, HF2.out.drewN _⟩
          case measure => simp [intOf]; omega
        · have a0 := HH2.out.at_ (i := j) (by have := HL2.out; omega)
          have a1 := HH2.out.at_ (i := j - 1) (by have := HL2.out; omega)
          obtain ⟨v0, e0⟩ : ∃ v, v = Hp.at_ l2 j := ⟨_, rfl⟩
          obtain ⟨v1, e1⟩ : ∃ v, v = Hp.at_ l2 (j - 1) := ⟨_, rfl⟩
          have hd := HD.out
          rw [if_neg h0, ← e0, ← e1] at hd
          rw [← e0] at a0
          rw [← e1] at a1
          have E0 := Lib.hid e0
          have E1 := Lib.hid e1
          have HD2 := Lib.hid hd
          have h3 : decide ((0 : Int) < (j : Int)) = true := by simp; omega
          have hj1 : ((j : Int) - 1) = ((j - 1 : Nat) : Int) := by omega
          obtain ⟨jp, hjp⟩ : ∃ jp, jp = j - 1 := ⟨_, rfl⟩
          rw [← hjp] at a1
          obtain rfl : j = jp + 1 := by omega
          obtain ⟨a0, a0f⟩ := a0
          obtain ⟨a1, a1f⟩ := a1
          clear e0 e1 hd hj1 hjp HD
          go_wp2_with fail
          go_quiet ((go_at_call 66; exact Calls.quiet_of_same (cless_any _ _ _)))
          have HH3 := Lib.hid (HH2.out.drewN nq)
          have HF3 := Lib.hid (HF2.out.drewN nq)
          have b0 : (wr.drewN nq).cell? ⟨g, jp + 1, none⟩ = some (.int .i64 v0) := a0
          have b1 : (wr.drewN nq).cell? ⟨g, jp, none⟩ = some (.int .i64 v1) := a1
          have b0f : (wr.drewN nq).frozen? ⟨g, jp + 1, none⟩ = false := a0f
          have b1f : (wr.drewN nq).frozen? ⟨g, jp, none⟩ = false := a1f
          clear a0 a1 a0f a1f HH2 HF2
          generalize wr.drewN nq = V at *
          by_cases h4 : v0 < v1
          · have hd4 : decide (v0 < v1) = true := by simpa using h4
            have hd := HD2.out
            rw [if_pos h4] at hd
            have HD3 := Lib.hid hd
            rw [hd4]
            obtain ⟨u, h5⟩ := cell?_setCell_some (w := V) (p := ⟨g, jp + 1, none⟩) (x := .int .i64 v1) (q := ⟨g, jp, none⟩) (v := .int .i64 v1) b1
            clear hd HD2
            go_wp2_with fail
            go_region
            all_goals
              go_wp2_with fail
              go_roundw
              case rel =>
                refine ⟨jp, f, Hp.swap l2 (jp + 1) jp, by go_num, by omega, by omega, HD3.out, (Hp.swap_len _ _ _).trans HL2.out, ?_, HF3.out.trans (fr_swap (i := jp + 1) (j := jp) 1)⟩
                have := HH3.out.swap (i := jp + 1) (j := jp) 1
                have e1' : v1 = Hp.at_ l2 jp := E1.out
                rw [← E0.out, ← e1'] at this
                exact this
              case measure => simp [intOf]
          · have hd4 : decide (v0 < v1) = false := by simpa using h4
            have hd := HD2.out
            rw [if_neg h4] at hd
            rw [hd4]
            have HD3 := Lib.hid hd
            clear hd HD2
            go_wp2_with fail
            go_roundw
            case rel => exact ⟨k + 1, _, by go_num, by omega, .inl (by omega), fun _ => HMO.out _ (HR2.out.trans HD3.out.symm), fun e => by omega, HL2.out, HH3.out, HF3.out⟩
            case measure => simp [intOf]; omega
    · go_wp2_with fail
      go_end0
      have hl : l' = R := by
        by_cases h0 : n = 0
        · rw [← HS0.out h0, ← HR.out, h0]; rfl
        · obtain rfl : k = n := by omega
          rw [← HS.out (Nat.le_refl _), HR.out]
      exact ⟨rfl, hl ▸ HH.out, HF.out⟩

theorem isort_none (c : Nat) (A : Option Addr) (w : World) : Calls Try.prog 60 #[.slice A 0 c, .int .i64 0, .int .i64 0] w fun e w' => e = .returned (.tuple #[]) ∧ w' = w := by
  go_enter Try.func60, Try.ntmps60
  go_wp2_with fail
  refine wp_loop_once ?_
  go_wp2_with fail
  go_end0
  exact ⟨rfl, rfl⟩
set_option maxRecDepth 100000 in
set_option maxHeartbeats 2000000 in
theorem pdq_none (c : Nat) (v : Int) (A : Option Addr) (w : World) : Calls Try.prog 45 #[.slice A 0 c, .int .i64 0, .int .i64 0, .int .i64 v] w fun e w' => e = .returned (.tuple #[]) ∧ w' = w := by
  go_enter Try.func45, Try.ntmps45
  go_wp2_with fail
  refine wp_loop_once ?_
  go_wp2_with (go_at_call 60; refine (isort_none _ _ _).mono ?_; rintro e w' ⟨rfl, rfl⟩)
  exact bodyPost_ret (results_none rfl _ _ _) rfl ⟨rfl, rfl⟩
set_option maxRecDepth 100000 in
set_option maxHeartbeats 2000000 in
theorem pdq_any (base g c n : Nat) (v : Int) (l : List Int) (w : World) (h : SRow w base g c l) (hn : l.length = n) (h12 : n ≤ 12) :
    Calls Try.prog 45 #[.slice (some ⟨g, 0, none⟩) n c, .int .i64 0, .int .i64 n, .int .i64 v] w fun e w' => e = .returned (.tuple #[]) ∧ SRow w' base g c (Is.sort l) ∧ Fr (· = g) w w' := by
  have H := Lib.hid h
  have HN := Lib.hid hn
  clear h hn
  go_enter Try.func45, Try.ntmps45
  go_wp2_with fail
  refine wp_loop_once ?_
  go_wp2_with (go_at_call 60; refine (isort_any base g c n l _ H.out HN.out h12).mono ?_; rintro e w' ⟨rfl, h1, h2⟩)
  exact bodyPost_ret (results_none rfl _ _ _) rfl ⟨rfl, h1, h2⟩
set_option maxRecDepth 100000 in
set_option maxHeartbeats 2000000 in
theorem sort_any (base c n : Nat) (A : Option Addr) (l : List Int) (w : World) (h : w.ownsRow base 3 1 (.slice A n c) n (ints l)) (hn : l.length = n) (h12 : n ≤ 12) :
    Calls Try.prog 25 #[.slice A n c] w fun e w' => e = .returned (.tuple #[]) ∧ w'.ownsRow base 3 1 (.slice A n c) n (ints (Is.sort l)) ∧ Fr (fun k => (Value.slice A n c).ownBlock = some k) w w' := by
  by_cases h0 : n = 0
  · subst h0
    have hl : l = [] := List.eq_nil_of_length_eq_zero hn
    subst hl
    have H := Lib.hid h
    clear h hn
    go_enter Try.func25, Try.ntmps25
    go_wp2_with (first
      | (go_at_call 46; refine (len_small _ _ (by omega) (by omega)).mono ?_; rintro e w' ⟨⟨v, rfl⟩, rfl⟩)
      | (go_at_call 45; refine (pdq_none _ _ _ _).mono ?_; rintro e w' ⟨rfl, rfl⟩))
    go_end0
    exact ⟨rfl, H.out, Fr.refl _ _⟩
  · obtain ⟨g, c', hv, hc, _, _, _⟩ := owns_at h (by omega)
    injection hv with hv1 _ hv3
    subst hv1
    subst hv3
    have HS : Hid (SRow w base g c l) := Lib.hid ⟨by rw [hn]; exact h⟩
    have HN := Lib.hid hn
    clear h hn
    go_enter Try.func25, Try.ntmps25
    go_wp2_with (first
      | (go_at_call 46; refine (len_small _ _ (by omega) (by omega)).mono ?_; rintro e w' ⟨⟨v, rfl⟩, rfl⟩)
      | (go_at_call 45; refine (pdq_any base g c n _ l _ HS.out HN.out h12).mono ?_; rintro e w' ⟨rfl, h1, h2⟩))
    go_end0
    have hl : (Is.sort l).length = n := (Is.sortTo_len _ _).trans HN.out
    refine ⟨rfl, by have := h1.row; rwa [hl] at this, h2.mono fun k _ e => by subst e; rfl⟩
end Go.Proofs.Ytoklllbaihccnaa
