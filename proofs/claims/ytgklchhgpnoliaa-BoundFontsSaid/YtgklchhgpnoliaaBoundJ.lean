/- bound's look whole; begin. -/
import Derived.Test.YtgklchhgpnoliaaBoundI
import Derived.Laws.MakeOwn
namespace Go.Proofs.Ytgklchhgpnoliaa
open Go.RowKit

theorem look_any (P G B : Nat) (Ac Af : Option Addr) (n cc m cf : Nat) (fs : List Bd.Cost) (s : Bd.St) (at_ op a : Int) (w : World) (h : PfAt w P G B Ac Af n cc m cf fs s) (hok : Bd.Ok n s) (hfs : fs.all Bd.mayBe = true) (ha0 : 0 ≤ at_) (ha1 : at_ < n) (hn : n ≤ 1000000000000000) :
    Calls Try.prog 27 #[.pointer (some ⟨P, 0, none⟩), .int .i64 at_, .agg #[.int .i64 op, .int .i64 a]] w (LookPost w P G B Ac Af n cc m cf fs (Bd.look n fs s at_ (op, a))) := by
  by_cases hal : Bd.always n fs.length at_ (op, a) = 0
  · cases hk : (Bd.pat s.pl at_).known with
    | false => exact look_B P G B Ac Af n cc m cf fs s at_ op a w h ha0 ha1 hn hal hk
    | true => exact look_C P G B Ac Af n cc m cf fs s at_ op a w h hok hfs ha0 ha1 hn hal hk
  · exact look_A P G B Ac Af n cc m cf fs s at_ op a w h ha0 ha1 hn hal

theorem make_rowN {P : Program} (t e : TypeId) (i : TypeInfo) (z : Value) (ht : P.underlying t = some (.slice e)) (hi : P.info? e = some i) (hz : i.zero = some z)
    (kl kc : IntKind) (n c : Nat) (hnc : n ≤ c) (hbytes : i.bytes * c ≤ 281474976710656) (h63 : c ≤ 9223372036854775807) (w : World) :
    (Instr.makeSlice t (.int kl (n : Int)) (.int kc (c : Int))).run P w = .ok (.slice (some ⟨w.heap.size, 0, none⟩) n c) (w.alloc (.cells (madeCells z.cells (c * i.size)) e)) := by
  have hb : (i.bytes : Int) * (c : Int) ≤ 281474976710656 := by
    have h : ((i.bytes * c : Nat) : Int) ≤ 281474976710656 := by omega
    rwa [Int.natCast_mul] at h
  have hr := run_make (P := P) w t e i z ht hi hz kl kc n c (by omega) (by omega) hb (by omega)
  simp only [Int.toNat_natCast] at hr
  exact hr

theorem place_info : (Try.prog.info? 82).map (fun i => (i.zero, i.size, i.bytes)) = some (some (.agg #[.bool false, .int .i64 0, .int .i64 0]), 3, 24) := by kernel_rfl

theorem plCells_app (a b : List Bd.Place) : plCells (a ++ b) = plCells a ++ plCells b := by
  induction a with
  | nil => rfl
  | cons p r ih => simp [plCells, ih]
theorem made_places (n : Nat) : madeCells #[Value.bool false, .int .i64 0, .int .i64 0] (n * 3) = (plCells (List.replicate n ⟨false, 0, 0⟩)).toArray := by
  unfold madeCells
  apply Array.toList_inj.1
  simp only [Array.toList_map, Array.toList_range]
  induction n with
  | zero => rfl
  | succ n ih =>
    rw [List.replicate_succ', plCells_app, ← ih, show (n + 1) * 3 = n * 3 + 1 + 1 + 1 by omega, List.range_succ, List.range_succ, List.range_succ]
    simp only [List.map_append, List.map_cons, List.map_nil, List.append_assoc, List.cons_append, List.nil_append, plCells]
    have e0 : n * 3 % 3 = 0 := by omega
    have e1 : (n * 3 + 1) % 3 = 1 := by omega
    have e2 : (n * 3 + 1 + 1) % 3 = 2 := by omega
    simp [e0, e1, e2]

set_option maxHeartbeats 400000 in
theorem begin_any (Ac Af : Option Addr) (n cc m cf : Nat) (w : World) (hn : n ≤ 1000000000000) :
    Calls Try.prog 26 #[.slice Ac n cc, .slice Af m cf] w fun e w' => e = .returned (.pointer (some ⟨w.heap.size + 1, 0, none⟩)) ∧
      (w.alloc (.cells (plCells (Bd.start n).pl).toArray 82)).alloc (.cells #[.slice Ac n cc, .slice Af m cf, .slice (some ⟨w.heap.size, 0, none⟩) (n + 1) (n + 1), .int .i64 0, .int .i64 0] 85) = w' := by
  obtain ⟨i0, hi, hz0, hz1, hz2⟩ := info_parts place_info
  have hmk := fun W => make_rowN (P := Try.prog) 83 82 i0 _ Try.underlying83 hi hz0 .i64 .i64 (n + 1) (n + 1) (Nat.le_refl _) (by rw [hz2]; omega) (by omega) W
  have ec : ((n + 1 : Nat) : Int) = (n : Int) + 1 := by omega
  rw [ec, hz1, show (Value.agg #[.bool false, .int .i64 0, .int .i64 0]).cells = #[Value.bool false, .int .i64 0, .int .i64 0] from rfl, made_places] at hmk
  obtain ⟨mc, hmc⟩ : ∃ mc, mc = (plCells (List.replicate (n + 1) ⟨false, 0, 0⟩)).toArray := ⟨_, rfl⟩
  rw [← hmc] at hmk
  have m0 : mc[0]? = some (.bool false) := by rw [hmc]; simp [List.replicate_succ, plCells]
  have hfin : mc.setIfInBounds 0 (.bool true) = (plCells (Bd.start n).pl).toArray := by rw [hmc]; simp [List.replicate_succ, plCells, Bd.start]
  have HF := Lib.hid hfin
  clear hi hz0 hz1 hz2 ec hmc hfin
  go_enter Try.func26, Try.ntmps26
  go_wp2_with fail
  go_ret
  refine ⟨rfl, ?_⟩
  rw [← HF.out]
end Go.Proofs.Ytgklchhgpnoliaa
