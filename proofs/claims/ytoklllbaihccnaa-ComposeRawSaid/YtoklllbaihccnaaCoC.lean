/- container/heap over compose's least: a heap of ints in a row of the call's own. -/
import Derived.Test.YtoklllbaihccnaaCoA
import Derived.Laws.EntriesVeiled
import Derived.ChangeKeysEq
import Derived.Deep.QuietTactic
import Derived.BigQuiet
import Derived.StillTailTactics
set_option linter.unusedVariables false
set_option linter.unusedSimpArgs false
namespace Go.Proofs.Ytoklllbaihccnaa
open Go.RowKit

namespace Hp
def at_ (l : List Int) (i : Nat) : Int := l.getD i 0
def swap (l : List Int) (i j : Nat) : List Int := (l.set i (at_ l j)).set j (at_ l i)
/-- the lesser child -/
def kid (l : List Int) (i n : Nat) : Nat := if 2 * i + 2 < n ∧ at_ l (2 * i + 2) < at_ l (2 * i + 1) then 2 * i + 2 else 2 * i + 1
def down : Nat → List Int → Nat → Nat → List Int
  | 0, l, _, _ => l
  | f + 1, l, i, n => if n ≤ 2 * i + 1 then l else if at_ l (kid l i n) < at_ l i then down f (swap l i (kid l i n)) (kid l i n) n else l
def up : Nat → List Int → Nat → List Int
  | 0, l, _ => l
  | f + 1, l, j => if j = 0 then l else if at_ l j < at_ l ((j - 1) / 2) then up f (swap l ((j - 1) / 2) j) ((j - 1) / 2) else l
def init (l : List Int) : List Int := (List.range (l.length / 2)).reverse.foldl (fun l' i => down l.length l' i l.length) l
def push (l : List Int) (x : Int) : List Int := up (l.length + 1) (l ++ [x]) l.length
/-- the last place holds what is taken -/
def popped (l : List Int) : List Int := down (l.length - 1) (swap l 0 (l.length - 1)) 0 (l.length - 1)
def pop (l : List Int) : Int × List Int := (at_ (popped l) (l.length - 1), (popped l).take (l.length - 1))
theorem swap_len (l : List Int) (i j : Nat) : (swap l i j).length = l.length := by simp [swap]
theorem down_len : ∀ (f : Nat) (l : List Int) (i n : Nat), (down f l i n).length = l.length
  | 0, _, _, _ => rfl
  | f + 1, l, i, n => by
    unfold down
    split
    · rfl
    · split
      · rw [down_len f, swap_len]
      · rfl
theorem up_len : ∀ (f : Nat) (l : List Int) (j : Nat), (up f l j).length = l.length
  | 0, _, _ => rfl
  | f + 1, l, j => by
    unfold up
    split
    · rfl
    · split
      · rw [up_len f, swap_len]
      · rfl
end Hp

/-- the variable at block rb holds the heap l -/
def HpAt (w : World) (base rb : Nat) (l : List Int) : Prop := ∃ v, Blk w rb 95 #[v] ∧ w.ownsRow base 3 1 v l.length (ints l)
abbrev rdy (rb : Nat) : Value := .iface 97 (.pointer (some ⟨rb, 0, none⟩))

set_option maxHeartbeats 400000 in
theorem len_any (A : Option Addr) (n c : Nat) (w : World) : Calls Try.prog 95 #[.slice A n c] w fun e w' => e = .returned (.int .i64 n) ∧ w = w' := by
  go_enter Try.func95, Try.ntmps95
  go_wp2
  go_ret
  exact ⟨rfl, rfl⟩
set_option maxHeartbeats 400000 in
theorem less_any (g n c i j : Nat) (a b : Int) (w : World) (hi : i < n) (hj : j < n) (hn : n ≤ 1000000000) (h1 : w.cell? ⟨g, i, none⟩ = some (.int .i64 a)) (h2 : w.cell? ⟨g, j, none⟩ = some (.int .i64 b)) :
    Calls Try.prog 96 #[.slice (some ⟨g, 0, none⟩) n c, .int .i64 i, .int .i64 j] w fun e w' => e = .returned (.bool (decide (a < b))) ∧ ∃ k, w' = w.drewN k := by
  go_enter Try.func96, Try.ntmps96
  go_wp2
  go_quiet (fail)
  go_wp2
  go_ret
  exact ⟨rfl, _, rfl⟩
theorem less_int (g n c i j : Nat) (x y a b : Int) (w : World) (ex : x = i) (ey : y = j) (hi : i < n) (hj : j < n) (hn : n ≤ 1000000000) (h1 : w.cell? ⟨g, i, none⟩ = some (.int .i64 a)) (h2 : w.cell? ⟨g, j, none⟩ = some (.int .i64 b)) :
    Calls Try.prog 96 #[.slice (some ⟨g, 0, none⟩) n c, .int .i64 x, .int .i64 y] w fun e w' => e = .returned (.bool (decide (a < b))) ∧ ∃ k, w' = w.drewN k := by
  subst ex; subst ey; exact less_any g n c i j a b w hi hj hn h1 h2
theorem m_row (nm : String) (f : Nat) (b : Bool) (h : ((Try.prog.info? 97).bind fun i => (i.methods.find? (·.name == nm)).map fun m => (m.path.isEmpty, m.func)) = some (true, some (f, b))) :
    ∃ i m, Try.prog.info? 97 = some i ∧ i.methods.find? (·.name == nm) = some m ∧ m.path = #[] ∧ m.func = some (f, b) := by
  cases hi : Try.prog.info? 97 with
  | none => rw [hi] at h; cases h
  | some i =>
    rw [hi] at h
    cases hm : i.methods.find? (·.name == nm) with
    | none => simp [hm] at h
    | some m =>
      simp only [Option.bind_some, hm, Option.map_some, Option.some.injEq, Prod.mk.injEq, Array.isEmpty_iff] at h
      exact ⟨i, m, rfl, hm, h.1, h.2⟩
theorem m_val (nm : String) (f : Nat) (h : ((Try.prog.info? 97).bind fun i => (i.methods.find? (·.name == nm)).map fun m => (m.path.isEmpty, m.func)) = some (true, some (f, false)))
    {rb : Nat} {w : World} {v : Value} (hc : w.cell? ⟨rb, 0, none⟩ = some v) :
    (method 293 97 (.pointer (some ⟨rb, 0, none⟩)) nm).run Try.prog w = .ok (f, v) w := by
  obtain ⟨i, m, hi, hm, h1, h2⟩ := m_row nm f false h
  unfold method
  have hu := Try.underlying97
  have hk : ∀ x y z a s, (Builtin.ssaWrapNilChk_ x y #[.pointer (some a), strVal s, strVal z]).run Try.prog w = .ok (.pointer (some a)) w := fun _ _ _ _ _ => rfl
  simp [run_typeInfo w hi, hk, hm, h1, h2, follow, receiverAt, run_underlying hu, Place.get, asAddr, Result.andThen]
  have hl : (loadVar 95 ⟨rb, 0, none⟩).run Try.prog w = .ok v w := by go_simp
  rw [hl]
theorem m_ptr_push (rb : Nat) (w : World) : (method 293 97 (.pointer (some ⟨rb, 0, none⟩)) "Push").run Try.prog w = .ok (99, .pointer (some ⟨rb, 0, none⟩)) w := by kernel_rfl
theorem m_ptr_pop (rb : Nat) (w : World) : (method 293 97 (.pointer (some ⟨rb, 0, none⟩)) "Pop").run Try.prog w = .ok (98, .pointer (some ⟨rb, 0, none⟩)) w := by kernel_rfl
theorem m_len {rb : Nat} {w : World} {v : Value} (hc : w.cell? ⟨rb, 0, none⟩ = some v) : (method 293 97 (.pointer (some ⟨rb, 0, none⟩)) "Len").run Try.prog w = .ok (95, v) w := m_val "Len" _ (by kernel_rfl) hc
theorem m_less {rb : Nat} {w : World} {v : Value} (hc : w.cell? ⟨rb, 0, none⟩ = some v) : (method 293 97 (.pointer (some ⟨rb, 0, none⟩)) "Less").run Try.prog w = .ok (96, v) w := m_val "Less" _ (by kernel_rfl) hc
theorem m_swap {rb : Nat} {w : World} {v : Value} (hc : w.cell? ⟨rb, 0, none⟩ = some v) : (method 293 97 (.pointer (some ⟨rb, 0, none⟩)) "Swap").run Try.prog w = .ok (97, v) w := m_val "Swap" _ (by kernel_rfl) hc
set_option maxRecDepth 100000 in
set_option maxHeartbeats 1000000 in
theorem swap_any (g n c i j : Nat) (a b : Int) (w : World) (hi : i < n) (hj : j < n) (hn : n ≤ 1000000000) (h1 : w.cell? ⟨g, i, none⟩ = some (.int .i64 a)) (h2 : w.cell? ⟨g, j, none⟩ = some (.int .i64 b)) (f1 : w.frozen? ⟨g, i, none⟩ = false) (f2 : w.frozen? ⟨g, j, none⟩ = false) :
    Calls Try.prog 97 #[.slice (some ⟨g, 0, none⟩) n c, .int .i64 i, .int .i64 j] w fun e w' => e = .returned (.tuple #[]) ∧ ∃ k, w' = ((w.setCell ⟨g, i, none⟩ (.int .i64 b)).setCell ⟨g, j, none⟩ (.int .i64 a)).drewN k := by
  obtain ⟨u, h3⟩ := cell?_setCell_some (w := w) (p := ⟨g, i, none⟩) (x := .int .i64 b) (q := ⟨g, j, none⟩) (v := .int .i64 b) h2
  go_enter Try.func97, Try.ntmps97
  go_wp2
  go_region
  all_goals (go_end0; exact ⟨rfl, 1, rfl⟩)

/-- the heap's row at block g, of capacity c -/
structure HpR (w : World) (base rb g c : Nat) (l : List Int) : Prop where
  box : Blk w rb 95 #[.slice (some ⟨g, 0, none⟩) l.length c]
  row : w.ownsRow base 3 1 (.slice (some ⟨g, 0, none⟩) l.length c) l.length (ints l)
theorem owns_blk {w : World} {base n c g : Nat} {t : TypeId} {xs : List Value} (h : w.ownsRow base t 1 (.slice (some ⟨g, 0, none⟩) n c) n xs) : ∃ cs : Array Value, Blk w g t cs ∧ base ≤ g ∧ g < w.heap.size ∧ ∀ (j : Nat) (u : Value), xs[j]? = some u → cs[j]? = some u := by
  rcases h.2 with ⟨h1, _⟩ | ⟨g', cap, cur, hv, hg, hh, h1, h2, h3, h4⟩
  · cases h1
  · cases hv
    refine ⟨cur, hh, hg, (Array.getElem?_eq_some_iff.1 hh).1, fun j u hu => ?_⟩
    rw [← h4, List.getElem?_take] at hu
    split at hu
    · simpa using hu
    · cases hu
theorem HpR.ne {w : World} {base rb g c : Nat} {l : List Int} (h : HpR w base rb g c l) : rb ≠ g := by
  obtain ⟨cs, hb, _⟩ := owns_blk h.row
  exact h.box.ne_ hb (by decide)
theorem HpR.at_ {w : World} {base rb g c : Nat} {l : List Int} (h : HpR w base rb g c l) {i : Nat} (hi : i < l.length) : w.cell? ⟨g, i, none⟩ = some (.int .i64 (Hp.at_ l i)) ∧ w.frozen? ⟨g, i, none⟩ = false := by
  obtain ⟨cs, hb, _, _, hc⟩ := owns_blk h.row
  refine ⟨?_, hb.frozen i⟩
  rw [hb.cell]
  exact hc _ _ (ints_at l i _ (by simp [Hp.at_, List.getElem?_eq_getElem hi]))
theorem HpR.drewN {w : World} {base rb g c : Nat} {l : List Int} (h : HpR w base rb g c l) (k : Nat) : HpR (w.drewN k) base rb g c l := ⟨h.box.drewN k, owns_keep h.row fun _ _ => rfl⟩
theorem HpR.swap {w : World} {base rb g c : Nat} {l : List Int} (h : HpR w base rb g c l) {i j : Nat} (hi : i < l.length) (hj : j < l.length) (k : Nat) :
    HpR (((w.setCell ⟨g, i, none⟩ (.int .i64 (Hp.at_ l j))).setCell ⟨g, j, none⟩ (.int .i64 (Hp.at_ l i))).drewN k) base rb g c (Hp.swap l i j) := by
  have hl := Hp.swap_len l i j
  have e : ints (Hp.swap l i j) = ((ints l).set i (.int .i64 (Hp.at_ l j))).set j (.int .i64 (Hp.at_ l i)) := by simp [Hp.swap, ints_set]
  refine HpR.drewN ⟨?_, ?_⟩ k
  · rw [hl]; exact (h.box.far h.ne _).far h.ne _
  · rw [hl, e]; exact (((h.row).stored i _).1.stored j _).1
theorem swap_int (g n c i j : Nat) (x y a b : Int) (w : World) (ex : x = i) (ey : y = j) (hi : i < n) (hj : j < n) (hn : n ≤ 1000000000) (h1 : w.cell? ⟨g, i, none⟩ = some (.int .i64 a)) (h2 : w.cell? ⟨g, j, none⟩ = some (.int .i64 b)) (f1 : w.frozen? ⟨g, i, none⟩ = false) (f2 : w.frozen? ⟨g, j, none⟩ = false) :
    Calls Try.prog 97 #[.slice (some ⟨g, 0, none⟩) n c, .int .i64 x, .int .i64 y] w fun e w' => e = .returned (.tuple #[]) ∧ ∃ k, w' = ((w.setCell ⟨g, i, none⟩ (.int .i64 b)).setCell ⟨g, j, none⟩ (.int .i64 a)).drewN k := by
  subst ex; subst ey; exact swap_any g n c i j a b w hi hj hn h1 h2 f1 f2
theorem fr_swap {w : World} {g i j : Nat} {u v : Value} (k : Nat) : Fr (· = g) w (((w.setCell ⟨g, i, none⟩ u).setCell ⟨g, j, none⟩ v).drewN k) :=
  (((Fr.refl (· = g) w).setCell (p := ⟨g, i, none⟩) (.inl rfl) u).setCell (p := ⟨g, j, none⟩) (.inl rfl) v).drewN k

theorem step_down {wr w W : World} {base rb g c k kid f n m : Nat} {l' R : List Int} {v0 vk : Int} (h : HpR wr base rb g c l') (hl : l'.length = m) (hF : Fr (· = g) w wr) (hn : n ≤ m) (e0 : v0 = Hp.at_ l' k) (ek : vk = Hp.at_ l' kid) (hkn : kid < n) (hk : k < n)
    (hd : (if Hp.at_ l' kid < Hp.at_ l' k then Hp.down f (Hp.swap l' k kid) kid n else l') = R) (hlt : vk < v0) (kk : Nat) (kk' : Nat) (hW : W = wr.drewN kk) :
    Hp.down f (Hp.swap l' k kid) kid n = R ∧ (Hp.swap l' k kid).length = m ∧ HpR (((W.setCell ⟨g, k, none⟩ (.int .i64 vk)).setCell ⟨g, kid, none⟩ (.int .i64 v0)).drewN kk') base rb g c (Hp.swap l' k kid) ∧ Fr (· = g) w (((W.setCell ⟨g, k, none⟩ (.int .i64 vk)).setCell ⟨g, kid, none⟩ (.int .i64 v0)).drewN kk') := by
  subst e0; subst ek; subst hW
  rw [if_pos hlt] at hd
  exact ⟨hd, (Hp.swap_len _ _ _).trans hl, (h.drewN kk).swap (by omega) (by omega) kk', (hF.drewN kk).trans (fr_swap kk')⟩
set_option maxRecDepth 100000 in
set_option maxHeartbeats 2000000 in
theorem hdown_any (base rb g c : Nat) (l : List Int) (i0 n : Nat) (w : World) (h : HpR w base rb g c l) (hn : n ≤ l.length) (hl : l.length ≤ 100000000) (hi : i0 ≤ 100000000) :
    Calls Try.prog 56 #[rdy rb, .int .i64 i0, .int .i64 n] w fun e w' => (∃ v, e = .returned v) ∧ HpR w' base rb g c (Hp.down n l i0 n) ∧ Fr (· = g) w w' := by
  have H := Lib.hid h
  obtain ⟨R, hR⟩ : ∃ R, Hp.down n l i0 n = R := ⟨_, rfl⟩
  rw [hR]
  have HR := Lib.hid hR
  obtain ⟨m, hm⟩ : ∃ m, m = l.length := ⟨_, rfl⟩
  rw [← hm] at hn hl
  have HM := Lib.hid hm
  clear h hR hm
  go_enter Try.func56, Try.ntmps56
  go_wp2_with fail
  go_loopw [7] (fun i wr => ∃ (k f : Nat) (l' : List Int), i = .int .i64 k ∧ k ≤ 100000000 ∧ n ≤ k + f ∧ Hp.down f l' k n = R ∧ l'.length = m ∧ HpR wr base rb g c l' ∧ Fr (· = g) w wr) (fun i _ => n - (intOf i).toNat)
  case atStart => exact ⟨i0, n, l, rfl, hi, by omega, HR.out, HM.out.symm, H.out, Fr.refl _ _⟩
  case round =>
    obtain ⟨k, f, l', rfl, hk, hf, hd, hl', hH, hF⟩ := hrel
    have c0 := hH.box.cell 0
    simp only [List.getElem?_toArray, List.getElem?_cons_zero] at c0
    rw [hl'] at c0
    have HH := Lib.hid hH
    have HF := Lib.hid hF
    have HD := Lib.hid hd
    have HL := Lib.hid hl'
    have rbl := hH.box.lt
    clear hd hl' hH hF H
    by_cases h1 : n ≤ 2 * k + 1
    · have hR : l' = R := by
        rw [← HD.out]
        cases f with
        | zero => rfl
        | succ f => unfold Hp.down; rw [if_pos h1]
      subst hR
      go_wp2_with fail
      go_ret
      exact ⟨⟨_, rfl⟩, HH.out, HF.out⟩
    · have hk1 : 2 * k + 1 < n := by omega
      obtain ⟨f, rfl⟩ : ∃ f', f = f' + 1 := ⟨f - 1, by omega⟩
      have hd := HD.out
      unfold Hp.down at hd
      rw [if_neg h1] at hd
      have HD2 := Lib.hid hd
      have a1 := HH.out.at_ (i := 2 * k + 1) (by have := HL.out; omega)
      have a0 := HH.out.at_ (i := k) (by have := HL.out; omega)
      have hm1 := @m_less rb
      have hm2 := @m_swap rb
      clear hd HD
      obtain ⟨kid, hkid⟩ : ∃ kid, kid = Hp.kid l' k n := ⟨_, rfl⟩
      rw [← hkid] at HD2
      have ak := HH.out.at_ (i := kid) (by have := HL.out; rw [hkid]; unfold Hp.kid; split <;> omega)
      obtain ⟨v1, e1⟩ : ∃ v, v = Hp.at_ l' (2 * k + 1) := ⟨_, rfl⟩
      obtain ⟨v0, e0⟩ : ∃ v, v = Hp.at_ l' k := ⟨_, rfl⟩
      obtain ⟨vk, ek⟩ : ∃ v, v = Hp.at_ l' kid := ⟨_, rfl⟩
      rw [← e0] at a0
      rw [← e1] at a1
      rw [← ek] at ak
      obtain ⟨a0, akf0⟩ := a0
      obtain ⟨a1, -⟩ := a1
      have E0 := Lib.hid e0
      have E1 := Lib.hid e1
      have EK := Lib.hid ek
      have HKID := Lib.hid hkid
      obtain ⟨ak, akf⟩ := ak
      clear e0 e1 ek hkid
      by_cases h2 : 2 * k + 2 < n
      · obtain ⟨v2, e2⟩ : ∃ v, v = Hp.at_ l' (2 * k + 2) := ⟨_, rfl⟩
        have a2 := (HH.out.at_ (i := 2 * k + 2) (by have := HL.out; omega)).1
        rw [← e2] at a2
        have E2 := Lib.hid e2
        clear e2
        go_wp2_with fail
        refine (less_int g m c (2 * k + 2) (2 * k + 1) _ _ v2 v1 _ (by omega) (by omega) (by have := HL.out; omega) (by have := HL.out; omega) (by omega) a2 a1).mono ?_
        rintro e w' ⟨rfl, kk, rfl⟩
        by_cases h3 : v2 < v1
        · have hd3 : decide (v2 < v1) = true := by simpa using h3
          rw [hd3]
          have hkk : kid = 2 * k + 2 := by rw [HKID.out]; unfold Hp.kid; rw [if_pos ⟨h2, by rw [← E2.out, ← E1.out]; exact h3⟩]
          subst hkk
          go_wp2_with fail
          refine (less_int g m c (2 * k + 2) k _ _ vk v0 _ (by omega) (by omega) (by have := HL.out; omega) (by have := HL.out; omega) (by omega) (by first | exact ak | simpa using ak) (by first | exact a0 | simpa using a0)).mono ?_
          rintro e w' ⟨rfl, kk2, rfl⟩
          by_cases h4 : vk < v0
          · have hd4 : decide (vk < v0) = true := by simpa using h4
            rw [hd4]
            go_wp2_with fail
            refine (swap_int g m c k (2 * k + 2) _ _ v0 vk _ (by omega) (by omega) (by have := HL.out; omega) (by have := HL.out; omega) (by omega) (by first | exact a0 | simpa using a0) (by first | exact ak | simpa using ak) (by first | exact akf0 | simpa using akf0) (by first | exact akf | simpa using akf)).mono ?_
            rintro e w' ⟨rfl, kk3, rfl⟩
            have HNX := Lib.hid (step_down HH.out HL.out HF.out hn E0.out EK.out (by omega) (by omega) HD2.out h4 _ kk3 (rfl : _ = wr.drewN (kk + kk2)))
            clear HD2 HH HF HKID E0 E1 EK
            generalize (((wr.drewN (kk + kk2)).setCell _ _).setCell _ _).drewN kk3 = W3 at *
            go_wp2_with fail
            go_roundw
            case rel => exact ⟨2 * k + 2, f, _, by go_num, by omega, by omega, HNX.out⟩
            case measure => simp [intOf]; omega
          · have hd4 : decide (vk < v0) = false := by simpa using h4
            rw [hd4]
            have hR : l' = R := by rw [← HD2.out, if_neg (by rw [← EK.out, ← E0.out]; exact h4)]
            subst hR
            go_wp2_with fail
            go_ret
            exact ⟨⟨_, rfl⟩, HH.out.drewN _, HF.out.drewN _⟩
        · have hd3 : decide (v2 < v1) = false := by simpa using h3
          rw [hd3]
          have hkk : kid = 2 * k + 1 := by rw [HKID.out]; unfold Hp.kid; rw [if_neg (fun h => h3 (by rw [E2.out, E1.out]; exact h.2))]
          subst hkk
          go_wp2_with fail
          refine (less_int g m c (2 * k + 1) k _ _ vk v0 _ (by omega) (by omega) (by have := HL.out; omega) (by have := HL.out; omega) (by omega) (by first | exact ak | simpa using ak) (by first | exact a0 | simpa using a0)).mono ?_
          rintro e w' ⟨rfl, kk2, rfl⟩
          by_cases h4 : vk < v0
          · have hd4 : decide (vk < v0) = true := by simpa using h4
            rw [hd4]
            go_wp2_with fail
            refine (swap_int g m c k (2 * k + 1) _ _ v0 vk _ (by omega) (by omega) (by have := HL.out; omega) (by have := HL.out; omega) (by omega) (by first | exact a0 | simpa using a0) (by first | exact ak | simpa using ak) (by first | exact akf0 | simpa using akf0) (by first | exact akf | simpa using akf)).mono ?_
            rintro e w' ⟨rfl, kk3, rfl⟩
            have HNX := Lib.hid (step_down HH.out HL.out HF.out hn E0.out EK.out (by omega) (by omega) HD2.out h4 _ kk3 (rfl : _ = wr.drewN (kk + kk2)))
            clear HD2 HH HF HKID E0 E1 EK
            generalize (((wr.drewN (kk + kk2)).setCell _ _).setCell _ _).drewN kk3 = W3 at *
            go_wp2_with fail
            go_roundw
            case rel => exact ⟨2 * k + 1, f, _, by go_num, by omega, by omega, HNX.out⟩
            case measure => simp [intOf]; omega
          · have hd4 : decide (vk < v0) = false := by simpa using h4
            rw [hd4]
            have hR : l' = R := by rw [← HD2.out, if_neg (by rw [← EK.out, ← E0.out]; exact h4)]
            subst hR
            go_wp2_with fail
            go_ret
            exact ⟨⟨_, rfl⟩, HH.out.drewN _, HF.out.drewN _⟩
      · have hkk : kid = 2 * k + 1 := by rw [HKID.out]; unfold Hp.kid; rw [if_neg (fun h => h2 h.1)]
        subst hkk
        go_wp2_with fail
        refine (less_int g m c (2 * k + 1) k _ _ vk v0 _ (by omega) (by omega) (by have := HL.out; omega) (by have := HL.out; omega) (by omega) (by first | exact ak | simpa using ak) (by first | exact a0 | simpa using a0)).mono ?_
        rintro e w' ⟨rfl, kk2, rfl⟩
        by_cases h4 : vk < v0
        · have hd4 : decide (vk < v0) = true := by simpa using h4
          rw [hd4]
          go_wp2_with fail
          refine (swap_int g m c k (2 * k + 1) _ _ v0 vk _ (by omega) (by omega) (by have := HL.out; omega) (by have := HL.out; omega) (by omega) (by first | exact a0 | simpa using a0) (by first | exact ak | simpa using ak) (by first | exact akf0 | simpa using akf0) (by first | exact akf | simpa using akf)).mono ?_
          rintro e w' ⟨rfl, kk3, rfl⟩
          have HNX := Lib.hid (step_down HH.out HL.out HF.out hn E0.out EK.out (by omega) (by omega) HD2.out h4 _ kk3 (rfl : _ = wr.drewN kk2))
          clear HD2 HH HF HKID E0 E1 EK
          generalize (((wr.drewN kk2).setCell _ _).setCell _ _).drewN kk3 = W3 at *
          go_wp2_with fail
          go_roundw
          case rel => exact ⟨2 * k + 1, f, _, by go_num, by omega, by omega, HNX.out⟩
          case measure => simp [intOf]; omega
        · have hd4 : decide (vk < v0) = false := by simpa using h4
          rw [hd4]
          have hR : l' = R := by rw [← HD2.out, if_neg (by rw [← EK.out, ← E0.out]; exact h4)]
          subst hR
          go_wp2_with fail
          go_ret
          exact ⟨⟨_, rfl⟩, HH.out.drewN _, HF.out.drewN _⟩
end Go.Proofs.Ytoklllbaihccnaa
