/- slices.Backward and slices.Min of ints. Expanded from XCoZ.src by expand.py. -/
import Derived.Test.YtoklllbaihccnaaCoY
set_option linter.unusedVariables false
set_option linter.unusedSimpArgs false
namespace Go.Proofs.Ytoklllbaihccnaa
open Go.RowKit Go.Shelf
attribute [local go_sem] Oper.semAt_some
theorem backward_any (A : Option Addr) (n c : Nat) (w : World) :
    Calls Try.prog 41 #[.slice A n c] w fun e w' => e = .returned (.func (.func 58) #[] #[.pointer (some ⟨w.heap.size, 0, none⟩)]) ∧ w' = w.alloc (.cells #[.slice A n c] 22) := by
  go_enter Try.func41, Try.ntmps41
  go_wp2
  go_ret
  exact ⟨rfl, rfl⟩
/-- a row's place, and what stands there -/
abbrev Back (vs : List Int) := {p : Nat × Int // vs[p.1]? = some p.2}
abbrev bv (p : Nat × Int) : Array Value := #[.int .i64 (p.1 : Int), .int .i64 p.2]
/-- two blocks are kept -/
def KpB (S rb : Nat) (W W' : World) : Prop := W'.heap[S]? = W.heap[S]? ∧ W'.heap[rb]? = W.heap[rb]?
theorem kpB_t {S rb : Nat} {A B C : World} (h : KpB S rb A B) (k : KpB S rb B C) : KpB S rb A C := ⟨k.1.trans h.1, k.2.trans h.2⟩
theorem kpB_put {S rb : Nat} (W : World) (l : Nat) (o : Obj) (hS : S ≠ l) (hr : rb ≠ l) : KpB S rb W (W.putObj l o) := ⟨World.putObj_heap_other hS, World.putObj_heap_other hr⟩
theorem kpB_alloc {S rb : Nat} (W : World) (o : Obj) (hS : S < W.heap.size) (hr : rb < W.heap.size) : KpB S rb W (W.alloc o) := ⟨Below.heap_alloc _ _ _ hS, Below.heap_alloc _ _ _ hr⟩
set_option maxRecDepth 100000 in
set_option maxHeartbeats 2000000 in
theorem back_in (n l S rb : Nat) (A : Option Addr) (c : Nat) (vs : List Int) (J Jx : List (Back vs) → World → Prop) (hn : 1 ≤ n)
    (hY : ∀ pre x W, J pre W → pre.length < vs.length → YieldAt Fence.wide (n - 1) Try.prog l (bv x.1) W fun e W' =>
      (e = .returned (.bool true) ∧ J (pre ++ [x]) W' ∧ KpB S rb W W') ∨ (e = .returned (.bool false) ∧ Jx (pre ++ [x]) W'))
    (W : World) (hS : Blk W S 22 #[.slice A vs.length c]) (hA : 0 < vs.length → A = some ⟨rb, 0, none⟩ ∧ ∃ t cs, Blk W rb t cs ∧ ∀ (j : Nat) (v : Int), vs[j]? = some v → cs[j]? = some (.int .i64 v)) (hvl : vs.length ≤ 100000) (hc : vs.length ≤ c) (h0 : J [] W) :
    CallsIn Fence.wide n Try.prog 58 #[.func (.yield l) #[] #[], .pointer (some ⟨S, 0, none⟩)] W fun e W' => (∃ v, e = .returned v) ∧
      ((∃ ys : List (Back vs), ys.map (·.1.2) = vs.reverse ∧ J ys W') ∨ (∃ pre, True ∧ Jx pre W')) := by
  obtain ⟨m, hm⟩ : ∃ m, m = vs.length := ⟨_, rfl⟩
  have x0 := hS.cell 0
  have xl := hS.lt
  simp only [List.getElem?_toArray, List.getElem?_cons_zero] at x0
  rw [← hm] at x0 hvl hc
  have HS := Lib.hid hS
  have HY := Lib.hid hY
  have HA := Lib.hid hA
  have HM := Lib.hid hm
  clear hS hY hA hm
  refine callsIn_of_wp Try.func58 rfl trivial ?_ rfl
  simp only [Try.ntmps58, List.size_toArray, List.length_cons, List.length_nil, Nat.reduceAdd, Nat.reduceSub, Array.replicate_succ, Array.replicate_zero, List.push_toArray, List.append_toArray, List.nil_append, List.cons_append]
  gi_wp2_with fail
  gi_loopw [3] (fun i wr => ∃ (k : Nat) (pre : List (Back vs)), k ≤ m ∧ i = .int .i64 ((k : Int) - 1) ∧ pre.map (·.1.2) = (vs.drop k).reverse ∧ J pre wr ∧ KpB S rb W wr) (fun i _ => (intOf i + 1).toNat)
  case atStart => exact ⟨m, [], Nat.le_refl _, rfl, by rw [HM.out, List.drop_length]; rfl, h0, rfl, rfl⟩
  case round =>
    obtain ⟨k, pre, hk, rfl, hpre, hJ0, hK0⟩ := hrel
    have hSr : Blk wr S 22 #[.slice A vs.length c] := hK0.1.trans HS.out
    have y0 := hSr.cell 0
    have yl := hSr.lt
    simp only [List.getElem?_toArray, List.getElem?_cons_zero] at y0
    rw [← HM.out] at y0
    have HPRE := Lib.hid hpre
    have HK := Lib.hid hK0
    have HJ0 := Lib.hid hJ0
    clear hpre hK0 hJ0 x0 hSr
    by_cases hlt : 0 < k
    · obtain ⟨j, rfl⟩ : ∃ j, k = j + 1 := ⟨k - 1, by omega⟩
      obtain ⟨hA, t, cs, hb, hcs⟩ := HA.out (by have := HM.out; omega)
      subst hA
      obtain ⟨v, hv⟩ : ∃ v, vs[j]? = some v := ⟨_, List.getElem?_eq_getElem (by have := HM.out; omega)⟩
      have hbr : Blk wr rb t cs := HK.out.2.trans hb
      have z0 := hbr.cell j
      rw [hcs j v hv] at z0
      have zl := hbr.lt
      obtain ⟨x, hx⟩ : ∃ x : Back vs, x.1 = (j, v) := ⟨⟨(j, v), hv⟩, rfl⟩
      obtain ⟨fn, tmps, assign, body, hy, hR⟩ := HY.out pre x wr HJ0.out (by
        have e1 := congrArg List.length HPRE.out
        simp only [List.length_map, List.length_reverse, List.length_drop] at e1
        have := HM.out
        omega)
      rw [hx] at hy
      simp only [bv] at hy
      have HXE := Lib.hid hx
      have HR := Lib.hid hR
      have HV := Lib.hid hv
      have hj1 : (((j + 1 : Nat) : Int) - 1) = (j : Int) := by omega
      rw [hj1]
      clear hx hR hb hcs hbr hv
      gi_wp2_with fail
      refine HR.out.mono ?_
      rintro e W3 (⟨rfl, hJ3, hk3⟩ | ⟨rfl, hJx3⟩)
      · have HJ3 := Lib.hid hJ3
        have HK3 := Lib.hid (kpB_t HK.out hk3)
        clear hJ3 hk3
        gi_wp2_with fail
        go_roundw
        case rel =>
          refine ⟨j, pre ++ [x], by omega, rfl, ?_, HJ3.out, HK3.out⟩
          have hd : vs.drop j = v :: vs.drop (j + 1) := by
            have hjl : j < vs.length := (List.getElem?_eq_some_iff.1 HV.out).1
            rw [List.drop_eq_getElem_cons hjl]
            have h := HV.out
            rw [List.getElem?_eq_getElem hjl] at h
            injection h with h
            rw [h]
          rw [List.map_append, HPRE.out, hd, List.reverse_cons, List.map_singleton, HXE.out]
        case measure => simp [intOf]
      · gi_wp2
        refine bodyPost_ret (results_none rfl _ _ _) rfl ?_
        exact ⟨⟨_, rfl⟩, .inr ⟨_, trivial, hJx3⟩⟩
    · obtain rfl : k = 0 := by omega
      gi_wp2
      go_end0
      exact ⟨⟨_, rfl⟩, .inl ⟨pre, by rw [HPRE.out, List.drop_zero], HJ0.out⟩⟩
theorem back_stops (n S rb : Nat) (A : Option Addr) (c : Nat) (vs : List Int) (hn : 1 ≤ n) (w : World) (hS : Blk w S 22 #[.slice A vs.length c]) (hA : 0 < vs.length → A = some ⟨rb, 0, none⟩ ∧ ∃ t cs, Blk w rb t cs ∧ ∀ (j : Nat) (v : Int), vs[j]? = some v → cs[j]? = some (.int .i64 v)) (hvl : vs.length ≤ 100000) (hc : vs.length ≤ c) :
    SeqStopsK Fence.wide n Try.prog 58 #[.pointer (some ⟨S, 0, none⟩)] (fun x : Back vs => bv x.1) (KpB S rb) (fun ys => ys.map (·.1.2) = vs.reverse) (fun _ => True) vs.length w := by
  intro l J Jx W hW hJ _ hYi h0
  refine back_in n l S rb A c vs J Jx hn hYi W (hS.below hW hS.lt) (fun h => ?_) hvl hc h0
  obtain ⟨h1, t, cs, h2, h3⟩ := hA h
  exact ⟨h1, t, cs, h2.below hW h2.lt, h3⟩
/-- the least of a row -/
def minL (vs : List Int) : Int := (vs.drop 1).foldl min (Hp.at_ vs 0)
set_option maxRecDepth 100000 in
set_option maxHeartbeats 2000000 in
theorem min_any (A : Option Addr) (n c B : Nat) (vs : List Int) (w : World) (hr : Reads w B 1 A n (ints vs)) (hl : vs.length = n) (h0 : 0 < n) (hn : n ≤ 1000000) (hc : n ≤ c) :
    Calls Try.prog 43 #[.slice A n c] w fun e w' => e = .returned (.int .i64 (minL vs)) ∧ w' = w := by
  obtain ⟨b, off, rfl, hb, hcell⟩ := hr.at_ h0
  obtain ⟨v0, hv0⟩ : ∃ v, vs[0]? = some v := ⟨_, List.getElem?_eq_getElem (by omega)⟩
  have z0 := hcell 0 _ (ints_at _ _ _ hv0)
  rw [Nat.add_zero] at z0
  have h00 : Hp.at_ vs 0 = v0 := by simp [Hp.at_, hv0]
  have HC := Lib.hid hcell
  have HL := Lib.hid hl
  have H00 := Lib.hid h00
  clear hcell hl hr h00 hv0
  go_enter Try.func43, Try.ntmps43
  go_wp2_with fail
  go_loopw [3, 4] (fun m i wr => ∃ k : Nat, 1 ≤ k ∧ k ≤ n ∧ i = .int .i64 k ∧ m = .int .i64 (((vs.drop 1).take (k - 1)).foldl min (Hp.at_ vs 0)) ∧ wr = w) (fun _ i _ => n - (intOf i).toNat)
  case atStart => exact ⟨1, Nat.le_refl _, by omega, by go_num, by simp [H00.out], rfl⟩
  case round =>
    obtain ⟨k, h1, hk, rfl, rfl, rfl⟩ := hrel
    obtain ⟨mv, hmv⟩ : ∃ mv, ((vs.drop 1).take (k - 1)).foldl min (Hp.at_ vs 0) = mv := ⟨_, rfl⟩
    rw [hmv]
    have HMV := Lib.hid hmv
    clear hmv
    by_cases hlt : k < n
    · obtain ⟨v, hv⟩ : ∃ v, vs[k]? = some v := ⟨_, List.getElem?_eq_getElem (by have := HL.out; omega)⟩
      have z1 := HC.out k _ (ints_at _ _ _ hv)
      have hmn : (if v < mv then v else mv) = min mv v := by omega
      have HV := Lib.hid hv
      clear hv
      go_wp2_with fail
      go_roundw
      case rel =>
        refine ⟨k + 1, by omega, by omega, by go_num, ?_, by first | rfl | trivial⟩
        have e : (vs.drop 1).take (k + 1 - 1) = (vs.drop 1).take (k - 1) ++ [v] := by
          rw [show k + 1 - 1 = (k - 1) + 1 by omega, List.take_add_one, List.getElem?_drop, show 1 + (k - 1) = k by omega, HV.out]
          rfl
        rw [e, List.foldl_append, HMV.out]
        rfl
      case measure => simp [intOf]; omega
    · obtain rfl : k = n := by omega
      go_wp2_with fail
      go_ret
      refine ⟨?_, rfl⟩
      rw [← HMV.out]
      unfold minL
      rw [List.take_of_length_le (by rw [List.length_drop, HL.out]; omega)]
      rfl
end Go.Proofs.Ytoklllbaihccnaa
