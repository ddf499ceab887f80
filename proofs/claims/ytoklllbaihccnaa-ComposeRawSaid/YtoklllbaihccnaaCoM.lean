/- compose.learn[int]: its contract. Expanded from XCoM.src by expand.py. -/
import Derived.Test.YtoklllbaihccnaaCoL
set_option linter.unusedVariables false
set_option linter.unusedSimpArgs false
namespace Go.Proofs.Ytoklllbaihccnaa
open Go.RowKit Go.Shelf
namespace Dp
/-- what is learnt in a row, each by what is known of those ahead -/
def learn (F : Int → (Int → Int) → Int) (os : List Int) : Int → Int := os.foldl (fun k g => upd k g (F g k)) (fun _ => 0)
theorem learn_snoc (F : Int → (Int → Int) → Int) (os : List Int) (g : Int) : learn F (os ++ [g]) = upd (learn F os) g (F g (learn F os)) := by simp [learn, List.foldl_append]
end Dp
set_option maxRecDepth 100000 in
set_option maxHeartbeats 2000000 in
theorem learn_any (base id : Nat) (caps : Array Value) (F : Int → (Int → Int) → Int) (os : List Int) (B : Nat) (A : Option Addr) (c : Nat) (w : World) (hr : Reads w B 1 A os.length (ints os)) (hB : B ≤ w.heap.size) (hc : os.length ≤ c) (hl : os.length ≤ 1000) (hi : ∀ x ∈ os, I64 x)
    (hof : ∀ (pre : List Int) (g : Int) (post : List Int), os = pre ++ g :: post → ∀ (W : World) (M : Nat), CMap W M (Dp.learn F pre) → w.heap.size ≤ M → Below w.heap.size w W →
      Calls Try.prog id (#[.int .i64 g, .map (some M)] ++ caps) W fun e W' => e = .returned (.int .i64 (F g (Dp.learn F pre))) ∧ Grow W W') (hid : ∀ args w, (callFunc id args).run Try.prog w = .ok (.enter id args) w) :
    Calls Try.prog 31 #[.slice A os.length c, .func (.func id) #[] caps] w fun e w' => ∃ M, e = .returned (.map (some M)) ∧ CMap w' M (Dp.learn F os) ∧ w.heap.size ≤ M ∧ Below w.heap.size w w' := by
  have HR := Lib.hid hr
  have HI := Lib.hid hi
  have HOF := Lib.hid hof
  clear hr hi hof
  have hmm := @run_makeMap Try.prog
  go_enter Try.func31, Try.ntmps31
  go_wp2_with fail
  go_loopw [11] (fun i wr => ∃ j : Nat, j ≤ os.length ∧ i = .int .i64 j ∧ CMap wr w.heap.size (Dp.learn F (os.take j)) ∧ Below w.heap.size w wr) (fun i _ => os.length - (intOf i).toNat)
  case atStart => exact ⟨0, by omega, rfl, CMap.new w, (Below.refl _ _).alloc (Nat.le_refl _) _⟩
  case round =>
    obtain ⟨j, hj, rfl, hC, hBw⟩ := hrel
    by_cases hlt : j < os.length
    · obtain ⟨g, hg⟩ : ∃ g, os[j]? = some g := ⟨_, List.getElem?_eq_getElem hlt⟩
      obtain ⟨rb, ro, hA, hb, hcell⟩ := HR.out.at_ (by omega)
      subst hA
      have e0 := (hBw.cell (p := ⟨rb, ro + j, none⟩) (by show rb < _; omega)).trans (hcell j (.int .i64 g) (ints_at _ _ _ hg))
      have hgi := HI.out g (List.mem_of_getElem? hg)
      have hsp : os = os.take j ++ g :: os.drop (j + 1) := by
        have h1 : os[j]'hlt = g := by rw [List.getElem?_eq_getElem hlt] at hg; injection hg
        conv => lhs; rw [← List.take_append_drop j os, List.drop_eq_getElem_cons hlt, h1]
      have HC := Lib.hid hC
      have HBW := Lib.hid hBw
      have HCALL := Lib.hid (HOF.out _ g _ hsp wr w.heap.size hC (Nat.le_refl _) hBw)
      have HSP := Lib.hid hsp
      have lbs : rb < wr.heap.size := by have := hBw.size; omega
      have hbs := hBw.size
      clear hC hBw hsp hcell hmm
      go_wp2_with fail
      refine HCALL.out.mono ?_
      rintro e w1 ⟨rfl, hg1⟩
      have hC1 : CMap w1 w.heap.size (Dp.learn F (os.take j)) := HC.out.keep (hg1.block _ HC.out.lt fun x => x)
      obtain ⟨w2, m1, m2, m3, m4⟩ := hC1.store g hgi (F g (Dp.learn F (os.take j)))
      have HM2 := Lib.hid m2
      have hB2 : Below w.heap.size w w2 := (HBW.out.trans (hg1.below hbs)).grown m3 (by have := hg1.size; omega) (fun b e => by injection e with e; omega)
      have HB2 := Lib.hid hB2
      clear m2 m3 m4 hC1 hB2 hg1
      go_wp2_with fail
      go_roundw
      case rel =>
        refine ⟨j + 1, by omega, by go_num, ?_, HB2.out⟩
        have e1 : os.take (j + 1) = os.take j ++ [g] := by rw [List.take_add_one, hg]; rfl
        rw [e1, Dp.learn_snoc]
        exact HM2.out
      case measure => simp [intOf]; omega
    · have hje : j = os.length := by omega
      have HC := Lib.hid hC
      have HBW := Lib.hid hBw
      clear hC hBw hmm
      go_wp2_with fail
      go_ret
      subst hje
      have h := HC.out
      rw [List.take_length] at h
      exact ⟨_, rfl, h, Nat.le_refl _, HBW.out⟩
end Go.Proofs.Ytoklllbaihccnaa
