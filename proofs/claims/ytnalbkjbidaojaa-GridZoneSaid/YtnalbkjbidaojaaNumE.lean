/- fleuronref02: Int: its contract. -/
import Derived.Test.YtnalbkjbidaojaaNumB
namespace Go.Proofs.Ytnalbkjbidaojaa
open Go.RowKit Nm

theorem val_drop_le : ∀ {d : List Int} (k : Nat), Dig d → val (d.drop k) ≤ val d
  | _, 0, _ => by rw [List.drop_zero]; exact Int.le_refl _
  | [], k + 1, _ => by simp
  | x :: r, k + 1, h => by
    rw [List.drop_succ_cons, val]
    have := val_drop_le k h.tail
    have := val_nonneg h.tail
    have := h x List.mem_cons_self
    omega
theorem val_drop (d : List Int) (k : Nat) (h : k < d.length) : val (d.drop k) = d.getD k 0 + 65536 * val (d.drop (k + 1)) := by
  rw [List.drop_eq_getElem_cons h, val, List.getD_eq_getElem?_getD, List.getElem?_eq_getElem h]
  rfl
def IntI (d : List Int) (n : Nat) (m i : Value) : Prop := ∃ k : Nat, k ≤ n ∧ i = .int .i64 ((k : Int) - 1) ∧ m = .int .u64 (val (d.drop k))
/-- what Int tells of a number -/
def IntP (x : Int) (w : World) (e : Ending) (w' : World) : Prop := ∃ r ok, e = .returned (.tuple #[.int .i64 r, .bool ok]) ∧ ok = decide (-9223372036854775808 ≤ x ∧ x ≤ 9223372036854775807) ∧ (ok = true → r = x) ∧ Below w.heap.size w w'
set_option maxHeartbeats 1000000 in
set_option maxRecDepth 100000 in
theorem int_any (v : Value) (x : Int) (N B : Nat) (w : World) (h : NumIs w B v x N) (hB : B ≤ w.heap.size) :
    Calls Try.prog 50 #[v] w (IntP x w) := by
  obtain ⟨b, A, d, c, rfl, hr, hok, hsv, hl, hc1, hc2⟩ := h
  obtain ⟨n, hn⟩ : ∃ n, n = d.length := ⟨_, rfl⟩
  rw [← hn] at hr hl hc1
  obtain ⟨X, hX⟩ : ∃ X, X = w.alloc (.cells #[.bool b, .slice A n c] 89) := ⟨_, rfl⟩
  have hX1 : Blk X w.heap.size 89 #[.bool b, .slice A n c] := by rw [hX]; exact Blk.new _ _ _
  have hXw : Below w.heap.size w X := by rw [hX]; exact (Below.refl _ _).alloc (Nat.le_refl _) _
  have HW := Lib.hid hXw
  have HX := Lib.hid hX
  have HR := Lib.hid (hr.below hXw hB)
  have HOK := Lib.hid hok
  have HSV := Lib.hid hsv
  have HN := Lib.hid hn
  have p0 := hX1.cell 0
  have p1 := hX1.cell 1
  simp only [List.getElem?_toArray, List.getElem?_cons_zero, List.getElem?_cons_succ] at p0 p1
  have pl := hX1.lt
  have hBX := Nat.le_trans hB hXw.size
  rw [← hn]
  clear hX hX1 hXw hr hok hsv hc2
  by_cases h4 : n ≤ 4
  · have h4i : ¬ (4 : Int) < (n : Int) := by omega
    have hlt : val d < 18446744073709551616 := by
      have h1 := val_lt HOK.out.dig
      have h2 : pw d.length ≤ pw 4 := pw_le (by omega)
      have h3 : pw 4 = 18446744073709551616 := by decide
      omega
    have HLT := Lib.hid hlt
    have H0 := Lib.hid (show IntI d n (.int .u64 0) (.int .i64 ((n : Int) - 1)) from ⟨n, Nat.le_refl _, rfl, by rw [hn, List.drop_length]; rfl⟩)
    clear hlt hn
    go_enter Try.func50, Try.ntmps50
    go_upto_region 1 with fail
    rw [← HX.out]
    go_wp2_with fail
    go_loopw [4, 5] (fun m i wx => IntI d n m i ∧ wx = X) (fun _ i _ => (intOf i + 1).toNat)
    case atStart => exact ⟨H0.out, rfl⟩
    case round =>
      clear H0
      obtain ⟨⟨k, hk, rfl, rfl⟩, rfl⟩ := hrel
      cases k with
      | zero =>
        rw [List.drop_zero]
        have h0v := val_nonneg HOK.out.dig
        have H0V := Lib.hid h0v
        clear h0v
        generalize hm : val d = m at *
        have HM := Lib.hid hm
        clear hm
        cases b
        · go_wp2_with fail
          go_ret2
          refine ⟨_, _, rfl, ?_, fun hok => ?_, HW.out⟩
          · have h1 := HSV.out
            have h2 := HM.out
            have h3 := H0V.out
            unfold sv at h1
            rw [if_neg (by decide)] at h1
            exact decide_eq_decide.2 (by omega)
          · have h1 := HSV.out
            have h2 := HM.out
            have h3 := H0V.out
            have h4 := of_decide_eq_true hok
            unfold sv at h1
            rw [if_neg (by decide)] at h1
            unfold wrap64
            omega
        · go_wp2_with fail
          go_ret2
          refine ⟨_, _, rfl, ?_, fun hok => ?_, HW.out⟩
          · have h1 := HSV.out
            have h2 := HM.out
            have h3 := H0V.out
            unfold sv at h1
            rw [if_pos rfl] at h1
            exact decide_eq_decide.2 (by omega)
          · have h1 := HSV.out
            have h2 := HM.out
            have h3 := H0V.out
            have h4 := of_decide_eq_true hok
            unfold sv at h1
            rw [if_pos rfl] at h1
            rw [IntKind.wrap_u64]
            unfold wrap64
            omega
      | succ q =>
        obtain ⟨blk, off, rfl, hb, hc⟩ := HR.out.2 (by omega)
        have c0 := hc q _ (dints_at d q (by have := HN.out; omega))
        have hlt2 : (q : Int) < (n : Int) := by omega
        have hbl : blk < wr.heap.size := by omega
        have hv := val_drop d q (by have := HN.out; omega)
        have hle := val_drop_le q HOK.out.dig
        have hlt := HLT.out
        have hm0 : 0 ≤ val (d.drop (q + 1)) := val_nonneg (fun y hy => HOK.out.dig y (List.mem_of_mem_drop hy))
        obtain ⟨x0, x1⟩ := HOK.out.dig.at q
        have hI : ∀ y, y = val (d.drop q) → IntI d n (.int .u64 y) (.int .i64 ((q : Int) - 1)) := fun y hy => ⟨q, by omega, rfl, by rw [hy]⟩
        have HI := Lib.hid hI
        clear hc hI
        rw [show ((q + 1 : Nat) : Int) - 1 = (q : Int) by omega]
        generalize val (d.drop (q + 1)) = m at *
        generalize val (d.drop q) = m2 at *
        generalize d.getD q 0 = x at *
        have HV := Lib.hid hv
        have hm1 : m * 65536 < 18446744073709551616 := by omega
        have hm2 : m * 65536 + x < 18446744073709551616 := by omega
        clear hv hle hlt
        go_wp2_with fail
        exact ⟨⟨HI.out _ (by have := HV.out; omega), trivial⟩, by simp [intOf]⟩
  · have h4i : (4 : Int) < (n : Int) := by omega
    clear hn
    go_enter Try.func50, Try.ntmps50
    go_upto_region 1 with fail
    rw [← HX.out]
    go_wp2_with fail
    go_ret2
    refine ⟨_, _, rfl, ?_, fun hok => absurd hok (by decide), HW.out⟩
    have hnd := HN.out
    obtain ⟨k, hk⟩ : ∃ k, d.length = k + 1 := ⟨d.length - 1, by omega⟩
    have h1 := HOK.out.ge k hk
    have h2 : pw 4 ≤ pw k := pw_le (by omega)
    have h3 : pw 4 = 18446744073709551616 := by decide
    have h5 := HSV.out
    refine (decide_eq_false ?_).symm
    unfold sv at h5
    cases b
    · rw [if_neg (by decide)] at h5
      omega
    · rw [if_pos rfl] at h5
      omega
end Go.Proofs.Ytnalbkjbidaojaa
