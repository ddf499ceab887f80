/- Parts of the proof, joined: OpenS LwR. -/
import Derived.Test.YtnhebmgibiomnaaGreatPa16
import Derived.Test.YtnhebmgibiomnaaGreatPa28
import Derived.Test.YtnhebmgibiomnaaGreatPa31
import Derived.Test.YtnhebmgibiomnaaGreatPa5
set_option linter.unusedVariables false
set_option linter.unusedSimpArgs false
namespace Go.Proofs.YtnhebmgibiomnaaGreat
open Go.ChangeShapes Go.WideShapes Go.ChangeAt Go.RowKit Go.Deep Mc
def regR (N0 : Nat) : Repr N0 Sr.Reg := Repr.map (fun r => (r.op, r.d, r.a, r.b, r.n)) (Repr.pair Repr.int (Repr.pair Repr.int (Repr.pair Repr.int (Repr.pair Repr.int Repr.int))))
theorem regR_eq {N0 : Nat} {w : World} {B : Nat} {x : Sr.Reg} {cs : List Value} (h : (regR N0).rel w B x cs) : cs = [.int .i64 x.op, .int .i64 x.d, .int .i64 x.a, .int .i64 x.b, .int .i64 x.n] := by
  obtain ⟨_, _, rfl, ⟨rfl, _⟩, _, _, rfl, ⟨rfl, _⟩, _, _, rfl, ⟨rfl, _⟩, _, _, rfl, ⟨rfl, _⟩, rfl, _⟩ := h; rfl
theorem regCells_flat : ∀ (l : List Sr.Reg), regCells l = l.flatMap fun x => [.int .i64 x.op, .int .i64 x.d, .int .i64 x.a, .int .i64 x.b, .int .i64 x.n]
  | [] => rfl
  | x :: r => by rw [regCells, regCells_flat r]; rfl
def progR (N0 : Nat) : Repr N0 (List (List (Int × Int)) × List (Int × Int) × List Int × Int) := Repr.pair (Repr.row 24 (codeR N0)) (Repr.pair (codeR N0) (Repr.pair (Repr.row 3 Repr.int) Repr.int))
section
variable {H : Type} {enc : TypeId × Value → H} {w : World} {spare : Nat → Bool} {held : Bool}
set_option maxRecDepth 100000 in
theorem opens_reg : Opens enc Tryz.prog w spare held (regR w.heap.size) 50 :=
  opens_map (fun r : Sr.Reg => (r.op, r.d, r.a, r.b, r.n)) (fun x => ⟨x.1, x.2.1, x.2.2.1, x.2.2.2.1, x.2.2.2.2⟩) (fun _ => rfl) (opens_struct Tryz.underlying50 (by kernel_rfl) (opens_fields rfl (opens_int Tryz.underlying3) (by kernel_rfl) rfl (opens_fields rfl (opens_int Tryz.underlying3) (by kernel_rfl) rfl (opens_fields rfl (opens_int Tryz.underlying3) (by kernel_rfl) rfl (opens_fields rfl (opens_int Tryz.underlying3) (by kernel_rfl) rfl (opens_field rfl (opens_int Tryz.underlying3) (by kernel_rfl)))))))
set_option maxRecDepth 100000 in
theorem opens_regs : Opens enc Tryz.prog w spare held (Repr.row 50 (regR w.heap.size)) 32 := opens_row Tryz.underlying32 (by kernel_rfl) (show 0 < 5 by decide) opens_reg
set_option maxRecDepth 100000 in
theorem opens_prog : Opens enc Tryz.prog w spare held (progR w.heap.size) 26 :=
  opens_struct Tryz.underlying26 (by kernel_rfl) (opens_fields rfl opens_rows (by kernel_rfl) rfl (opens_fields rfl opens_code (by kernel_rfl) rfl (opens_fields rfl opens_nums (by kernel_rfl) rfl (opens_field rfl (opens_int Tryz.underlying3) (by kernel_rfl)))))
theorem regs_open {fuel : Nat} {cs : List Value} {x : DataW H × List MemPlace} (h : DataW.trod enc Tryz.prog w 0 spare held fuel 32 cs = some x) :
    ∃ (code : List Sr.Reg) (A : Option Addr) (c : Nat), cs = [.slice A code.length c] ∧ code.length ≤ c ∧ c ≤ maxLen ∧ Reads w w.heap.size 5 A code.length (regCells code) := by
  obtain ⟨code, A, c, rfl, a1, a2, a3⟩ := opens_regs _ _ _ h
  exact ⟨code, A, c, rfl, a1, a2, by rw [regCells_flat]; exact a3.reads _ fun a cs h => regR_eq h⟩
theorem prog_open {fuel : Nat} {cs : List Value} {x : DataW H × List MemPlace} (h : DataW.trod enc Tryz.prog w 0 spare held fuel 26 cs = some x) :
    ∃ (ll : List (List (Int × Int))) (l : List (Int × Int)) (cvt : List Int) (size : Int) (A Am cA : Option Addr) (c cm cc : Nat), cs = [.slice A ll.length c, .slice Am l.length cm, .slice cA cvt.length cc, .int .i64 size] ∧ ll.length ≤ c ∧ l.length ≤ cm ∧ cvt.length ≤ cc ∧
      RowAt (codeR w.heap.size) 24 w w.heap.size A ll ∧ RowAt (insR w.heap.size) 96 w w.heap.size Am l ∧ Reads w w.heap.size 1 cA cvt.length (ints cvt) ∧ I64 size := by
  obtain ⟨⟨ll, l, cvt, size⟩, _, _, rfl, ⟨A, c, rfl, a1, a2, a3⟩, _, _, rfl, ⟨Am, cm, rfl, b1, b2, b3⟩, _, _, rfl, ⟨cA, cc, rfl, c1, c2, c3⟩, rfl, d1⟩ := opens_prog _ _ _ h
  refine ⟨ll, l, cvt, size, A, Am, cA, c, cm, cc, rfl, a1, b1, c1, a3, b3, ?_, d1⟩
  rw [ints_flat]
  exact c3.reads _ fun a cs h => int_eq h
end
end Go.Proofs.YtnhebmgibiomnaaGreat
namespace Go.Proofs.YtnhebmgibiomnaaGreat
open Go.RowKit Mc
theorem rkeep_any (n : Int) (w : World) : Calls Tryz.prog 53 #[.int .i64 n] w fun e w' => e = .returned (.int .i64 (Mc.k32 n)) ∧ w = w' := by
  go_enter Tryz.func53, Tryz.ntmps53
  go_wp2
  go_ret
  exact ⟨ret_i64 (k32_wrap n), rfl⟩
end Go.Proofs.YtnhebmgibiomnaaGreat
