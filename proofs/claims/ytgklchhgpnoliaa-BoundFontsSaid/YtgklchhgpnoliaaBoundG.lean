/- bound's first, over the rows of always and reached. -/
import Derived.Test.YtgklchhgpnoliaaBoundF
import Derived.Laws.EntriesVeiled
namespace Go.Proofs.Ytgklchhgpnoliaa
open Go.RowKit

set_option maxHeartbeats 400000 in
theorem re3 (PB AT X E P G : Nat) (c0 c1 c3 c4 e0 e1 e3 : Value) (m mc : Nat) (pl : List Bd.Place) (at_ op a high : Int) (w : World) (hPB : Blk w PB 78 #[.pointer (some ⟨P, 0, none⟩)]) (hAT : Blk w AT 3 #[.int .i64 at_]) (hX : Blk w X 25 #[.int .i64 op, .int .i64 a]) (hE : Blk w E 112 #[e0, e1, .int .i64 high, e3])
    (hP : Blk w P 85 #[c0, c1, .slice (some ⟨G, 0, none⟩) m mc, c3, c4]) (hG : Blk w G 82 (plCells pl).toArray)
    (hm : pl.length = m) (b0 : 0 ≤ at_) (b1 : at_ ≤ 1000000000000000) (b2 : Bd.jumps op = true → 0 ≤ a ∧ a ≤ 1000000000000000) (hw : ∀ t ∈ Bd.ways at_ (op, a), 0 ≤ t ∧ t < m) :
    Calls Try.prog 59 #[.pointer (some ⟨PB, 0, none⟩), .pointer (some ⟨AT, 0, none⟩), .pointer (some ⟨X, 0, none⟩), .pointer (some ⟨E, 0, none⟩)] w fun e w' => e = .returned (.bool (Bd.agrees pl at_ (op, a) high)) ∧ Below w.heap.size w w' := by
  have q0 : w.cell? ⟨PB, 0, none⟩ = some (.pointer (some ⟨P, 0, none⟩)) := by rw [hPB.cell]; rfl
  have t0 : w.cell? ⟨AT, 0, none⟩ = some (.int .i64 at_) := by rw [hAT.cell]; rfl
  have x0 : w.cell? ⟨X, 0, none⟩ = some (.int .i64 op) := by rw [hX.cell]; rfl
  have x1 : w.cell? ⟨X, 1, none⟩ = some (.int .i64 a) := by rw [hX.cell]; rfl
  have y2 : w.cell? ⟨E, 2, none⟩ = some (.int .i64 high) := by rw [hE.cell]; rfl
  have HC := Lib.hid (agrees_any P G c0 c1 c3 c4 m mc pl at_ op a high w hP hG hm b0 b1 b2 hw)
  clear hPB hAT hX hE hP hG hm b2 hw
  go_enter Try.func59, Try.ntmps59
  go_wp2_with fail
  refine HC.out.mono ?_
  rintro e w' ⟨rfl, hb⟩
  go_wp2
  go_ret
  exact ⟨rfl, hb⟩

set_option maxHeartbeats 1000000 in
theorem first_always (R X PB AT P : Nat) (op a at_ : Int) (A A' : Option Addr) (n c m c' : Nat) (c2 c3 c4 : Value) (w : World)
    (hR : Blk w R 141 #[.func (.func 51) #[] #[.pointer (some ⟨X, 0, none⟩)], .int .i64 50, .func (.func 52) #[] #[.pointer (some ⟨X, 0, none⟩), .pointer (some ⟨PB, 0, none⟩), .pointer (some ⟨AT, 0, none⟩)], .int .i64 52, .func (.func 54) #[] #[.pointer (some ⟨X, 0, none⟩), .pointer (some ⟨PB, 0, none⟩)], .int .i64 54])
    (hX : Blk w X 25 #[.int .i64 op, .int .i64 a]) (hPB : Blk w PB 78 #[.pointer (some ⟨P, 0, none⟩)]) (hAT : Blk w AT 3 #[.int .i64 at_])
    (hP : Blk w P 85 #[.slice A n c, .slice A' m c', c2, c3, c4]) (ha0 : 0 ≤ at_) (ha1 : at_ ≤ n) (hn : n ≤ 1000000000000000) :
    Calls Try.prog 37 #[.slice (some ⟨R, 0, none⟩) 3 3] w fun e w' => e = .returned (.int .i64 (Bd.always n m at_ (op, a))) ∧ Below w.heap.size w w' := by
  obtain ⟨t1, ht1⟩ : ∃ t1, t1 = decide (1 ≤ op ∧ op ≤ 39) := ⟨_, rfl⟩
  obtain ⟨t2, ht2⟩ : ∃ t2, t2 = !(Bd.jumps op && !(decide (0 ≤ a) && decide (a ≤ n - 1 - at_))) := ⟨_, rfl⟩
  obtain ⟨t3, ht3⟩ : ∃ t3, t3 = !(Bd.calls op && !(decide (0 ≤ a) && decide (a < m))) := ⟨_, rfl⟩
  have hfin : Bd.always n m at_ (op, a) = if t1 = false then 50 else if t2 = false then 52 else if t3 = false then 54 else 0 := by
    unfold Bd.always; simp only; rw [ht1, ht2, ht3]; simp
  rw [hfin]
  obtain ⟨fin, hf⟩ : ∃ fin : Int, fin = if t1 = false then 50 else if t2 = false then 52 else if t3 = false then 54 else 0 := ⟨_, rfl⟩
  rw [← hf]
  have HF := Lib.hid hf
  clear hf
  have C1 : ∀ W, Below w.heap.size w W → Calls Try.prog 51 #[.pointer (some ⟨X, 0, none⟩)] W fun e w' => e = .returned (.bool t1) ∧ Below W.heap.size W w' := fun W h => by rw [ht1]; exact al1 X op a W (hX.below h hX.lt)
  have C2 : ∀ W, Below w.heap.size w W → Calls Try.prog 52 #[.pointer (some ⟨X, 0, none⟩), .pointer (some ⟨PB, 0, none⟩), .pointer (some ⟨AT, 0, none⟩)] W fun e w' => e = .returned (.bool t2) ∧ Below W.heap.size W w' := fun W h => by rw [ht2]; exact al2 X PB AT P op a at_ A n c _ _ _ _ W (hX.below h hX.lt) (hPB.below h hPB.lt) (hAT.below h hAT.lt) (hP.below h hP.lt) ha0 ha1 hn
  have C3 : ∀ W, Below w.heap.size w W → Calls Try.prog 54 #[.pointer (some ⟨X, 0, none⟩), .pointer (some ⟨PB, 0, none⟩)] W fun e w' => e = .returned (.bool t3) ∧ Below W.heap.size W w' := fun W h => by rw [ht3]; exact al3 X PB P op a A' m c' _ _ _ _ W (hX.below h hX.lt) (hPB.below h hPB.lt) (hP.below h hP.lt)
  have HC1 := Lib.hid C1
  have HC2 := Lib.hid C2
  have HC3 := Lib.hid C3
  have HR := Lib.hid hR
  have hRl := hR.lt
  clear C1 C2 C3 ht1 ht2 ht3 hfin hX hPB hAT hP ha0 ha1 hn hR
  go_enter Try.func37, Try.ntmps37
  go_wp2_with fail
  go_loopw [7] (fun i wr => ∃ k : Nat, k ≤ 3 ∧ i = .int .i64 k ∧ (0 < k → t1 = true) ∧ (1 < k → t2 = true) ∧ (2 < k → t3 = true) ∧ Below w.heap.size w wr) (fun i _ => 3 - (intOf i).toNat)
  case atStart => exact ⟨0, by omega, rfl, by simp, by simp, by simp, Below.refl _ _⟩
  case round =>
    obtain ⟨k, hk, rfl, k1, k2, k3, hB⟩ := hrel
    have hbR := HR.out.below hB hRl
    have fr := hbR.frozen
    have hl := hB.size
    match k, hk with
    | 0, _ =>
      have r0 : wr.cell? ⟨R, 0, none⟩ = _ := hbR.cell 0
      have r1 : wr.cell? ⟨R, 1, none⟩ = _ := hbR.cell 1
      simp at r0 r1
      clear hbR fr
      go_wp2_with fail
      refine (HC1.out _ (hB.alloc hl _)).mono ?_
      rintro e w1 ⟨rfl, hb1⟩
      have hbw : Below w.heap.size w w1 := (hB.alloc hl _).trans (hb1.mono (by simp; omega))
      have z0 : w1.cell? ⟨wr.heap.size, 1, none⟩ = _ := hb1.cell (p := ⟨wr.heap.size, 1, none⟩) (by simp)
      simp [go_sem] at z0
      clear hb1
      cases t1 with
      | false =>
        go_wp2
        go_ret
        exact ⟨ret_int (by have h := HF.out; simp_all), hbw⟩
      | true =>
        go_wp2
        go_roundw
        case rel => exact ⟨1, by omega, by go_num, by simp_all, by simp_all, by simp_all, hbw⟩
        case measure => simp [intOf]
    | 1, _ =>
      have r0 : wr.cell? ⟨R, 2, none⟩ = _ := hbR.cell 2
      have r1 : wr.cell? ⟨R, 3, none⟩ = _ := hbR.cell 3
      simp at r0 r1
      clear hbR fr
      go_wp2_with fail
      refine (HC2.out _ (hB.alloc hl _)).mono ?_
      rintro e w1 ⟨rfl, hb1⟩
      have hbw : Below w.heap.size w w1 := (hB.alloc hl _).trans (hb1.mono (by simp; omega))
      have z0 : w1.cell? ⟨wr.heap.size, 1, none⟩ = _ := hb1.cell (p := ⟨wr.heap.size, 1, none⟩) (by simp)
      simp [go_sem] at z0
      clear hb1
      cases t2 with
      | false =>
        go_wp2
        go_ret
        exact ⟨ret_int (by have h := HF.out; simp_all), hbw⟩
      | true =>
        go_wp2
        go_roundw
        case rel => exact ⟨2, by omega, by go_num, by simp_all, by simp_all, by simp_all, hbw⟩
        case measure => simp [intOf]
    | 2, _ =>
      have r0 : wr.cell? ⟨R, 4, none⟩ = _ := hbR.cell 4
      have r1 : wr.cell? ⟨R, 5, none⟩ = _ := hbR.cell 5
      simp at r0 r1
      clear hbR fr
      go_wp2_with fail
      refine (HC3.out _ (hB.alloc hl _)).mono ?_
      rintro e w1 ⟨rfl, hb1⟩
      have hbw : Below w.heap.size w w1 := (hB.alloc hl _).trans (hb1.mono (by simp; omega))
      have z0 : w1.cell? ⟨wr.heap.size, 1, none⟩ = _ := hb1.cell (p := ⟨wr.heap.size, 1, none⟩) (by simp)
      simp [go_sem] at z0
      clear hb1
      cases t3 with
      | false =>
        go_wp2
        go_ret
        exact ⟨ret_int (by have h := HF.out; simp_all), hbw⟩
      | true =>
        go_wp2
        go_roundw
        case rel => exact ⟨3, by omega, by go_num, by simp_all, by simp_all, by simp_all, hbw⟩
        case measure => simp [intOf]
    | 3, _ =>
      clear hbR fr
      go_wp2
      go_ret
      exact ⟨ret_int (by have h := HF.out; simp_all), hB⟩

set_option maxHeartbeats 1000000 in
theorem first_reached (R X PB AT E P G B : Nat) (op a at_ need peak : Int) (c0 e0 e1 : Value) (Af : Option Addr) (m cf mp mc : Nat) (fs : List Bd.Cost) (pl : List Bd.Place) (high steps : Int) (w : World)
    (hR : Blk w R 141 #[.func (.func 57) #[] #[.pointer (some ⟨X, 0, none⟩), .pointer (some ⟨PB, 0, none⟩)], .int .i64 51, .func (.func 58) #[] #[.pointer (some ⟨PB, 0, none⟩)], .int .i64 51, .func (.func 59) #[] #[.pointer (some ⟨PB, 0, none⟩), .pointer (some ⟨AT, 0, none⟩), .pointer (some ⟨X, 0, none⟩), .pointer (some ⟨E, 0, none⟩)], .int .i64 51, .func (.func 61) #[] #[.pointer (some ⟨E, 0, none⟩)], .int .i64 53])
    (hX : Blk w X 25 #[.int .i64 op, .int .i64 a]) (hPB : Blk w PB 78 #[.pointer (some ⟨P, 0, none⟩)]) (hAT : Blk w AT 3 #[.int .i64 at_]) (hE : Blk w E 112 #[e0, e1, .int .i64 high, .int .i64 steps])
    (hP : Blk w P 85 #[c0, .slice Af m cf, .slice (some ⟨G, 0, none⟩) mp mc, .int .i64 need, .int .i64 peak]) (hF : Reads w B 4 Af m (costCells fs)) (hB0 : B ≤ w.heap.size) (hm : m = fs.length) (hG : Blk w G 82 (plCells pl).toArray)
    (hmp : pl.length = mp) (ha : op = 38 → 0 ≤ a ∧ a < m) (b0 : 0 ≤ at_) (b1 : at_ ≤ 1000000000000000) (b2 : Bd.jumps op = true → 0 ≤ a ∧ a ≤ 1000000000000000) (hw : ∀ t ∈ Bd.ways at_ (op, a), 0 ≤ t ∧ t < mp) (ee : Bd.Eff) (he1 : ee.high = high) (he2 : ee.steps = steps) :
    Calls Try.prog 37 #[.slice (some ⟨R, 0, none⟩) 4 4] w fun e w' => e = .returned (.int .i64 (Bd.reached fs pl need peak at_ (op, a) ee)) ∧ Below w.heap.size w w' := by
  obtain ⟨t1, ht1⟩ : ∃ t1, t1 = !(decide (op = 38) && !((Bd.fn fs a).delta == 0)) := ⟨_, rfl⟩
  obtain ⟨t2, ht2⟩ : ∃ t2, t2 = (decide (need ≤ 32) && decide (peak ≤ 32)) := ⟨_, rfl⟩
  obtain ⟨t3, ht3⟩ : ∃ t3, t3 = Bd.agrees pl at_ (op, a) high := ⟨_, rfl⟩
  obtain ⟨t4, ht4⟩ : ∃ t4, t4 = decide (steps ≤ 4096) := ⟨_, rfl⟩
  have hfin : Bd.reached fs pl need peak at_ (op, a) ee = if t1 = false then 51 else if t2 = false then 51 else if t3 = false then 51 else if t4 = false then 53 else 0 := by
    unfold Bd.reached; simp only; rw [ht1, ht2, ht3, ht4, he1, he2]; simp
  rw [hfin]
  obtain ⟨fin, hf⟩ : ∃ fin : Int, fin = if t1 = false then 51 else if t2 = false then 51 else if t3 = false then 51 else if t4 = false then 53 else 0 := ⟨_, rfl⟩
  rw [← hf]
  have HF := Lib.hid hf
  clear hf
  have C1 : ∀ W, Below w.heap.size w W → Calls Try.prog 57 #[.pointer (some ⟨X, 0, none⟩), .pointer (some ⟨PB, 0, none⟩)] W fun e w' => e = .returned (.bool t1) ∧ Below W.heap.size W w' := fun W h => by rw [ht1]; exact re1 X PB P B op a Af m cf fs _ _ _ _ W (hX.below h hX.lt) (hPB.below h hPB.lt) (hP.below h hP.lt) (hF.below h hB0) hm ha
  have C2 : ∀ W, Below w.heap.size w W → Calls Try.prog 58 #[.pointer (some ⟨PB, 0, none⟩)] W fun e w' => e = .returned (.bool t2) ∧ Below W.heap.size W w' := fun W h => by rw [ht2]; exact re2 PB P _ _ _ need peak W (hPB.below h hPB.lt) (hP.below h hP.lt)
  have C3 : ∀ W, Below w.heap.size w W → Calls Try.prog 59 #[.pointer (some ⟨PB, 0, none⟩), .pointer (some ⟨AT, 0, none⟩), .pointer (some ⟨X, 0, none⟩), .pointer (some ⟨E, 0, none⟩)] W fun e w' => e = .returned (.bool t3) ∧ Below W.heap.size W w' := fun W h => by rw [ht3]; exact re3 PB AT X E P G _ _ _ _ _ _ _ mp mc pl at_ op a high W (hPB.below h hPB.lt) (hAT.below h hAT.lt) (hX.below h hX.lt) (hE.below h hE.lt) (hP.below h hP.lt) (hG.below h hG.lt) hmp b0 b1 b2 hw
  have C4 : ∀ W, Below w.heap.size w W → Calls Try.prog 61 #[.pointer (some ⟨E, 0, none⟩)] W fun e w' => e = .returned (.bool t4) ∧ Below W.heap.size W w' := fun W h => by rw [ht4]; exact re4 E _ _ _ steps W (hE.below h hE.lt)
  have HC1 := Lib.hid C1
  have HC2 := Lib.hid C2
  have HC3 := Lib.hid C3
  have HC4 := Lib.hid C4
  have HR := Lib.hid hR
  have hRl := hR.lt
  clear C1 C2 C3 C4 ht1 ht2 ht3 ht4 hfin hX hPB hAT hP hE hF hG hm hmp ha b0 b1 b2 hw he1 he2 hR
  go_enter Try.func37, Try.ntmps37
  go_wp2_with fail
  go_loopw [7] (fun i wr => ∃ k : Nat, k ≤ 4 ∧ i = .int .i64 k ∧ (0 < k → t1 = true) ∧ (1 < k → t2 = true) ∧ (2 < k → t3 = true) ∧ (3 < k → t4 = true) ∧ Below w.heap.size w wr) (fun i _ => 4 - (intOf i).toNat)
  case atStart => exact ⟨0, by omega, rfl, by simp, by simp, by simp, by simp, Below.refl _ _⟩
  case round =>
    obtain ⟨k, hk, rfl, k1, k2, k3, k4, hB⟩ := hrel
    have hbR := HR.out.below hB hRl
    have fr := hbR.frozen
    have hl := hB.size
    match k, hk with
    | 0, _ =>
      have r0 : wr.cell? ⟨R, 0, none⟩ = _ := hbR.cell 0
      have r1 : wr.cell? ⟨R, 1, none⟩ = _ := hbR.cell 1
      simp at r0 r1
      clear hbR fr
      go_wp2_with fail
      refine (HC1.out _ (hB.alloc hl _)).mono ?_
      rintro e w1 ⟨rfl, hb1⟩
      have hbw : Below w.heap.size w w1 := (hB.alloc hl _).trans (hb1.mono (by simp; omega))
      have z0 : w1.cell? ⟨wr.heap.size, 1, none⟩ = _ := hb1.cell (p := ⟨wr.heap.size, 1, none⟩) (by simp)
      simp [go_sem] at z0
      clear hb1
      cases t1 with
      | false =>
        go_wp2
        go_ret
        exact ⟨ret_int (by have h := HF.out; simp_all), hbw⟩
      | true =>
        go_wp2
        go_roundw
        case rel => exact ⟨1, by omega, by go_num, by simp_all, by simp_all, by simp_all, by simp_all, hbw⟩
        case measure => simp [intOf]
    | 1, _ =>
      have r0 : wr.cell? ⟨R, 2, none⟩ = _ := hbR.cell 2
      have r1 : wr.cell? ⟨R, 3, none⟩ = _ := hbR.cell 3
      simp at r0 r1
      clear hbR fr
      go_wp2_with fail
      refine (HC2.out _ (hB.alloc hl _)).mono ?_
      rintro e w1 ⟨rfl, hb1⟩
      have hbw : Below w.heap.size w w1 := (hB.alloc hl _).trans (hb1.mono (by simp; omega))
      have z0 : w1.cell? ⟨wr.heap.size, 1, none⟩ = _ := hb1.cell (p := ⟨wr.heap.size, 1, none⟩) (by simp)
      simp [go_sem] at z0
      clear hb1
      cases t2 with
      | false =>
        go_wp2
        go_ret
        exact ⟨ret_int (by have h := HF.out; simp_all), hbw⟩
      | true =>
        go_wp2
        go_roundw
        case rel => exact ⟨2, by omega, by go_num, by simp_all, by simp_all, by simp_all, by simp_all, hbw⟩
        case measure => simp [intOf]
    | 2, _ =>
      have r0 : wr.cell? ⟨R, 4, none⟩ = _ := hbR.cell 4
      have r1 : wr.cell? ⟨R, 5, none⟩ = _ := hbR.cell 5
      simp at r0 r1
      clear hbR fr
      go_wp2_with fail
      refine (HC3.out _ (hB.alloc hl _)).mono ?_
      rintro e w1 ⟨rfl, hb1⟩
      have hbw : Below w.heap.size w w1 := (hB.alloc hl _).trans (hb1.mono (by simp; omega))
      have z0 : w1.cell? ⟨wr.heap.size, 1, none⟩ = _ := hb1.cell (p := ⟨wr.heap.size, 1, none⟩) (by simp)
      simp [go_sem] at z0
      clear hb1
      cases t3 with
      | false =>
        go_wp2
        go_ret
        exact ⟨ret_int (by have h := HF.out; simp_all), hbw⟩
      | true =>
        go_wp2
        go_roundw
        case rel => exact ⟨3, by omega, by go_num, by simp_all, by simp_all, by simp_all, by simp_all, hbw⟩
        case measure => simp [intOf]
    | 3, _ =>
      have r0 : wr.cell? ⟨R, 6, none⟩ = _ := hbR.cell 6
      have r1 : wr.cell? ⟨R, 7, none⟩ = _ := hbR.cell 7
      simp at r0 r1
      clear hbR fr
      go_wp2_with fail
      refine (HC4.out _ (hB.alloc hl _)).mono ?_
      rintro e w1 ⟨rfl, hb1⟩
      have hbw : Below w.heap.size w w1 := (hB.alloc hl _).trans (hb1.mono (by simp; omega))
      have z0 : w1.cell? ⟨wr.heap.size, 1, none⟩ = _ := hb1.cell (p := ⟨wr.heap.size, 1, none⟩) (by simp)
      simp [go_sem] at z0
      clear hb1
      cases t4 with
      | false =>
        go_wp2
        go_ret
        exact ⟨ret_int (by have h := HF.out; simp_all), hbw⟩
      | true =>
        go_wp2
        go_roundw
        case rel => exact ⟨4, by omega, by go_num, by simp_all, by simp_all, by simp_all, by simp_all, hbw⟩
        case measure => simp [intOf]
    | 4, _ =>
      clear hbR fr
      go_wp2
      go_ret
      exact ⟨ret_int (by have h := HF.out; simp_all), hB⟩

end Go.Proofs.Ytgklchhgpnoliaa
