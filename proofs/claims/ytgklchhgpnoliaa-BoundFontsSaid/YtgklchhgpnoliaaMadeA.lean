/- fleuronref07's maker: its next number. -/
import Derived.Test.YtgklchhgpnoliaaReprs
import Derived.BigQuiet
import Derived.Deep.QuietTactic
namespace Go.Proofs.Ytgklchhgpnoliaa
open Go.RowKit

/-- the maker: its block, its numbers (they lie below B), the cells of its font, and its loops -/
structure MkC where
  M : Nat
  B : Nat
  sA : Option Addr
  sn : Nat
  sc : Nat
  c2 : Value
  c3 : Value
  c4 : Value
  c5 : Value
  c6 : Value
  c7 : Value
  c8 : Value
  c9 : Value
  c10 : Value
  c11 : Value
def Mk (w : World) (m : MkC) : Prop :=
  ∃ at_ : Nat, at_ ≤ m.sn ∧ m.sn ≤ 1000000000000 ∧ m.B ≤ m.M ∧ Blk w m.M 90 #[.slice m.sA m.sn m.sc, .int .i64 at_, m.c2, m.c3, m.c4, m.c5, m.c6, m.c7, m.c8, m.c9, m.c10, m.c11] ∧
    ∃ xs : List Int, Reads w m.B 1 m.sA m.sn (xs.map (Value.int .i64)) ∧ ∀ x ∈ xs, I64 x
theorem Mk.lt {w : World} {m : MkC} (h : Mk w m) : m.M < w.heap.size := by
  obtain ⟨_, _, _, _, hb, _⟩ := h; exact hb.lt
theorem Mk.cells {w : World} {m : MkC} (h : Mk w m) :
    (∀ i, 2 ≤ i → w.cell? ⟨m.M, i, none⟩ = (#[m.c2, m.c3, m.c4, m.c5, m.c6, m.c7, m.c8, m.c9, m.c10, m.c11] : Array Value)[i - 2]?) ∧ ∀ i, w.frozen? ⟨m.M, i, none⟩ = false := by
  obtain ⟨_, _, _, _, hb, _⟩ := h
  refine ⟨fun i hi => ?_, hb.frozen⟩
  rw [hb.cell]
  obtain ⟨j, rfl⟩ : ∃ j, i = j + 2 := ⟨i - 2, by omega⟩
  simp
/-- only block M has changed, and new blocks may have come -/
abbrev FrM (M : Nat) (w w' : World) : Prop := Fr (fun k => k = M) w w'
def NextPost (m : MkC) (n : Int) (w : World) (e : Ending) (w' : World) : Prop :=
  ∃ r : Int, 0 ≤ r ∧ r < n ∧ e = .returned (.int .i64 r) ∧ Mk w' m ∧ FrM m.M w w' ∧ w'.heap.size = w.heap.size

set_option maxHeartbeats 1000000 in
theorem next_any (w : World) (m : MkC) (n : Int) (h : Mk w m) (hn0 : 1 ≤ n) (hn1 : n ≤ 1000000000) :
    Calls Try.prog 31 #[.pointer (some ⟨m.M, 0, none⟩), .int .i64 n] w (NextPost m n w) := by
  obtain ⟨M, B, sA, sn, sc, c2, c3, c4, c5, c6, c7, c8, c9, c10, c11⟩ := m
  obtain ⟨at_, ha, hs, hBM, hb, xs, hr, hx⟩ := h
  simp only at ha hs hBM hb hr hx ⊢
  have hMl := hb.lt
  have m0 := hb.cell 0
  have m1 := hb.cell 1
  have z1 := hb.frozen 1
  simp only [List.getElem?_toArray, List.getElem?_cons_zero, List.getElem?_cons_succ] at m0 m1
  have HB := Lib.hid hb
  have HR := Lib.hid hr
  have HX := Lib.hid hx
  clear hb hr hx
  by_cases hlt : at_ < sn
  · obtain ⟨b, off, rfl, hbB, hcells⟩ := HR.out.2 (by omega)
    have hxl : xs.length = sn := by have := HR.out.1; simpa using this
    obtain ⟨x, hxa⟩ : ∃ x, xs[at_]? = some x := ⟨_, List.getElem?_eq_getElem (by omega)⟩
    have d0 := hcells at_ (.int .i64 x) (by rw [List.getElem?_map, hxa]; rfl)
    have hxi := HX.out x (List.mem_of_getElem? hxa)
    unfold I64 at hxi
    have ht1 : -n < x.tmod n := by have := Int.lt_tmod_of_pos x (show 0 < n by omega); omega
    have ht2 : x.tmod n < n := Int.tmod_lt_of_pos x (by omega)
    have hne : b ≠ M := by omega
    have hbl : b < w.heap.size := by omega
    have hrn : 0 ≤ (x.tmod n + n) % n ∧ (x.tmod n + n) % n < n := ⟨Int.emod_nonneg _ (by omega), Int.emod_lt_of_pos _ (by omega)⟩
    have i1 : (0 : Int) ≤ (at_ : Int) := by omega
    have i2 : (at_ : Int) < (sn : Int) := by omega
    clear hcells hxa hxl
    go_enter Try.func31, Try.ntmps31
    go_wp2_with fail
    go_quiet (fail)
    obtain ⟨nq', hnq⟩ : ∃ nq', nq' = nq := ⟨_, rfl⟩
    rw [← hnq]
    clear hnq
    go_wp2_with fail
    go_quiet (fail)
    go_wp2_with fail
    go_ret
    refine ⟨_, hrn.1, hrn.2, rfl, ⟨at_ + 1, by show at_ + 1 ≤ sn; omega, hs, hBM, ?_, xs, (HR.out.drewN _).setCell hBM _, HX.out⟩, ((Fr.refl (fun k => k = M) w).drewN _).setCell (.inl rfl) _, by simp [World.setCell]⟩
    have := (HB.out.drewN (nq' + nq)).set_ 1 (.int .i64 ((at_ : Int) + 1))
    simpa using this
  · have hge : (sn : Int) ≤ (at_ : Int) := by omega
    go_enter Try.func31, Try.ntmps31
    go_wp2_with fail
    go_quiet (fail)
    go_wp2_with fail
    go_ret
    exact ⟨0, by omega, by omega, rfl, ⟨at_, ha, hs, hBM, HB.out.drewN _, xs, HR.out.drewN _, HX.out⟩, (Fr.refl _ w).drewN _, rfl⟩
end Go.Proofs.Ytgklchhgpnoliaa
