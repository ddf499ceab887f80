/- The machine's deeds Jump, JumpZ, CallF, Loop: their contracts. -/
import Derived.Test.YthdmdgmchkhngaaMaQ
namespace Go.Proofs.Ythdmdgmchkhngaa
open Go.RowKit Mc

theorem jump_deed (w : World) (mb : Nat) (O : Nat → Prop) (L : Lay) (s : St) (h : MaL w mb O L s) (f : Fm) (r : List Fm) (hf : s.frames = f :: r) (n : Nat) (hn : f.next + n ≤ f.code.length) :
    Calls Try.prog 81 #[.pointer (some ⟨mb, 0, none⟩), .int .i64 n] w (MPost w mb O (pass s n)) := by
  have HC := Lib.hid (pass_any w mb O L s h f r hf n hn)
  clear h hf hn
  go_enter Try.func81, Try.ntmps81
  go_wp2_with fail
  refine HC.out.mono ?_
  intro e w9 hp; have HP := Lib.hid hp; obtain ⟨rfl, _⟩ := hp; go_wp2; go_end0; exact HP.out
def jumpZV (s : St) (r : List Int) (x a : Int) : St := if x = 0 then pass { s with stack := r } a else { s with stack := r }
theorem jumpZV_yes (s : St) (r : List Int) (a : Int) : jumpZV s r 0 a = pass { s with stack := r } a := by unfold jumpZV; rw [if_pos rfl]
theorem jumpZV_no (s : St) (r : List Int) {x : Int} (hx : x ≠ 0) (a : Int) : jumpZV s r x a = { s with stack := r } := by unfold jumpZV; rw [if_neg hx]
theorem passIfZero_any (w : World) (mb : Nat) (O : Nat → Prop) (L : Lay) (s : St) (h : MaL w mb O L s) (x : Int) (l : List Int) (hs : s.stack = x :: l) (f : Fm) (r : List Fm) (hf : s.frames = f :: r) (n : Nat) (hn : f.next + n ≤ f.code.length) :
    Calls Try.prog 84 #[.pointer (some ⟨mb, 0, none⟩), .int .i64 n] w (MPost w mb O (jumpZV s l x n)) := by
  have H := Lib.hid h
  have HS := Lib.hid hs
  have HF := Lib.hid hf
  have HN := Lib.hid hn
  clear h hs hf hn
  by_cases hx : x = 0
  · subst hx
    go_enter Try.func84, Try.ntmps84
    go_wp2_with fail
    refine (take1_new w mb O L s H.out _ l HS.out _).mono ?_
    rintro e w' ⟨rfl, ht, hb1⟩; obtain ⟨L', hM⟩ := ht.ma; have HM := Lib.hid hM; have HT := Lib.hid ht; have hlt := ht.lt; have b1 := hb1.cell 0; have b1l := hb1.lt; have b1f := hb1.frozen 0; simp only [List.getElem?_toArray, List.getElem?_cons_zero] at b1; clear ht hM hb1
    go_wp2_with fail
    refine (pass_any w' mb O L' _ HM.out f r HF.out n HN.out).mono ?_
    intro e w9 hp; have HP := Lib.hid (hp.from_ HT.out.fr); obtain ⟨rfl, _⟩ := hp; go_wp2; go_end0
    rw [jumpZV_yes]
    exact HP.out
  · have hb : (x == 0) = false := by simpa using hx
    go_enter Try.func84, Try.ntmps84
    go_wp2_with fail
    refine (take1_new w mb O L s H.out _ l HS.out _).mono ?_
    rintro e w' ⟨rfl, ht, hb1⟩; obtain ⟨L', hM⟩ := ht.ma; have HM := Lib.hid hM; have HT := Lib.hid ht; have hlt := ht.lt; have b1 := hb1.cell 0; have b1l := hb1.lt; have b1f := hb1.frozen 0; simp only [List.getElem?_toArray, List.getElem?_cons_zero] at b1; clear ht hM hb1
    go_wp2
    go_end0
    rw [jumpZV_no _ _ hx]
    exact .here HM.out HT.out.fr
theorem jumpZ_deed (w : World) (mb : Nat) (O : Nat → Prop) (L : Lay) (s : St) (h : MaL w mb O L s) (x : Int) (l : List Int) (hs : s.stack = x :: l) (f : Fm) (r : List Fm) (hf : s.frames = f :: r) (n : Nat) (hn : f.next + n ≤ f.code.length) :
    Calls Try.prog 83 #[.pointer (some ⟨mb, 0, none⟩), .int .i64 n] w (MPost w mb O (jumpZV s l x n)) := by
  have HC := Lib.hid (passIfZero_any w mb O L s h x l hs f r hf n hn)
  clear h hs hf hn
  go_enter Try.func83, Try.ntmps83
  go_wp2_with fail
  refine HC.out.mono ?_
  intro e w9 hp; have HP := Lib.hid hp; obtain ⟨rfl, _⟩ := hp; go_wp2; go_end0; exact HP.out
theorem callF_deed (w : World) (mb : Nat) (O : Nat → Prop) (L : Lay) (s : St) (h : MaL w mb O L s) (a : Nat) (ha : a < s.funcs.length) (hfl : s.frames.length ≤ 20) :
    Calls Try.prog 85 #[.pointer (some ⟨mb, 0, none⟩), .int .i64 a] w (MPost w mb O (call s a 1)) := by
  have HC := Lib.hid (call_any w mb O L s h a ha 1 (by decide) hfl)
  clear h ha hfl
  go_enter Try.func85, Try.ntmps85
  go_wp2_with fail
  refine HC.out.mono ?_
  intro e w9 hp; have HP := Lib.hid hp; obtain ⟨rfl, _⟩ := hp; go_wp2; go_end0; exact HP.out
theorem loop_any (w : World) (mb : Nat) (O : Nat → Prop) (L : Lay) (s : St) (h : MaL w mb O L s) (x : Int) (l : List Int) (hs : s.stack = x :: l) (a : Nat) (ha : a < s.funcs.length) (hfl : s.frames.length ≤ 20) :
    Calls Try.prog 88 #[.pointer (some ⟨mb, 0, none⟩), .int .i64 a] w (MPost w mb O (call { s with stack := l } a (min x 16))) := by
  have H := Lib.hid h
  have HS := Lib.hid hs
  have hfn := h.ok.fnl
  generalize hmn : min x 16 = m
  have HMN := Lib.hid hmn
  clear h hs hmn
  by_cases hx : 16 < x
  · obtain rfl : m = 16 := by have := HMN.out; omega
    go_enter Try.func88, Try.ntmps88
    go_wp2_with fail
    refine (take1_new w mb O L s H.out _ l HS.out _).mono ?_
    rintro e w' ⟨rfl, ht, hb1⟩; obtain ⟨L', hM⟩ := ht.ma; have HM := Lib.hid hM; have HT := Lib.hid ht; have hlt := ht.lt; have b1 := hb1.cell 0; have b1l := hb1.lt; have b1f := hb1.frozen 0; simp only [List.getElem?_toArray, List.getElem?_cons_zero] at b1; clear ht hM hb1
    go_wp2_with fail
    refine (call_any w' mb O L' _ HM.out a ha _ (by omega) hfl).mono ?_
    intro e w9 hp; have HP := Lib.hid (hp.from_ HT.out.fr); obtain ⟨rfl, _⟩ := hp; go_wp2; go_end0; exact HP.out
  · obtain rfl : m = x := by have := HMN.out; omega
    go_enter Try.func88, Try.ntmps88
    go_wp2_with fail
    refine (take1_new w mb O L s H.out _ l HS.out _).mono ?_
    rintro e w' ⟨rfl, ht, hb1⟩; obtain ⟨L', hM⟩ := ht.ma; have HM := Lib.hid hM; have HT := Lib.hid ht; have hlt := ht.lt; have b1 := hb1.cell 0; have b1l := hb1.lt; have b1f := hb1.frozen 0; simp only [List.getElem?_toArray, List.getElem?_cons_zero] at b1; clear ht hM hb1
    go_wp2_with fail
    refine (call_any w' mb O L' _ HM.out a ha _ (by omega) hfl).mono ?_
    intro e w9 hp; have HP := Lib.hid (hp.from_ HT.out.fr); obtain ⟨rfl, _⟩ := hp; go_wp2; go_end0; exact HP.out
theorem loop_deed (w : World) (mb : Nat) (O : Nat → Prop) (L : Lay) (s : St) (h : MaL w mb O L s) (x : Int) (l : List Int) (hs : s.stack = x :: l) (a : Nat) (ha : a < s.funcs.length) (hfl : s.frames.length ≤ 20) :
    Calls Try.prog 87 #[.pointer (some ⟨mb, 0, none⟩), .int .i64 a] w (MPost w mb O (call { s with stack := l } a (min x 16))) := by
  have HC := Lib.hid (loop_any w mb O L s h x l hs a ha hfl)
  clear h hs ha hfl
  go_enter Try.func87, Try.ntmps87
  go_wp2_with fail
  refine HC.out.mono ?_
  intro e w9 hp; have HP := Lib.hid hp; obtain ⟨rfl, _⟩ := hp; go_wp2; go_end0; exact HP.out
end Go.Proofs.Ythdmdgmchkhngaa
