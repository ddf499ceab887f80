/- BoundStraight's walk. -/
import Derived.Test.YtgklchhgpnoliaaBoundO
import Derived.Test.YtgklchhgpnoliaaStraight
import Derived.Deep.QuietTactic
import Derived.BigQuiet
import Derived.IntWalk
namespace Go.Proofs.Ytgklchhgpnoliaa
open Go.RowKit

/-- what the law makes of an instruction -/
def turned (x : Int × Int) : Int × Int := (1 + x.1 % 65536 % 39, x.2)
def goodB (x : Int × Int) : Bool := !(x.1 == 35 || x.1 == 36 || x.1 == 37 || x.1 == 38)
def kept (l : List (Int × Int)) : List (Int × Int) := (l.map turned).filter goodB
theorem kept_good (l : List (Int × Int)) : ∀ x ∈ kept l, Bd.good x := by
  intro x hx
  unfold kept at hx
  obtain ⟨h1, h2⟩ := List.mem_filter.1 hx
  obtain ⟨y, _, rfl⟩ := List.mem_map.1 h1
  simp [goodB, turned] at h2
  unfold Bd.good turned
  simp only
  omega
theorem kept_len (l : List (Int × Int)) : (kept l).length ≤ l.length := by
  unfold kept
  have := List.length_filter_le goodB (l.map turned)
  simpa using this

theorem ins_info : (Try.prog.info? 25).map (fun i => (i.zero, i.size, i.bytes)) = some (some (.agg #[.int .i64 0, .int .i64 0]), 2, 16) := by kernel_rfl
theorem insCells_app (a b : List (Int × Int)) : insCells (a ++ b) = insCells a ++ insCells b := by
  induction a with
  | nil => rfl
  | cons p r ih => simp [insCells, ih]
theorem own_empty (w : World) (e : TypeId) (size base : Nat) (hb : base ≤ w.heap.size) : (w.alloc (.cells #[] e)).ownsRow base e size (.slice (some ⟨w.heap.size, 0, none⟩) 0 0) 0 [] :=
  ⟨by simp, .inr ⟨w.heap.size, 0, _, rfl, hb, heap_alloc_new w _, by simp, by simp, by simp, by simp⟩⟩

def Inv (w : World) (l : List (Int × Int)) (n : Nat) (v h need peak i : Value) (wr : World) : Prop :=
  ∃ (k : Nat) (cs : List (Int × Int)) (sn sh sp : Int), k ≤ n ∧ k ≤ 30 ∧ i = .int .i64 k ∧ cs = kept (l.take k) ∧ wr.ownsRow w.heap.size 25 2 v cs.length (insCells cs) ∧ ⟨sn, sh, sp⟩ = Bd.sums cs ∧ h = .int .i64 sh ∧ need = .int .i64 sn ∧ peak = .int .i64 sp ∧
    (0 ≤ sn ∧ sn ≤ 2 * k ∧ 0 ≤ sp ∧ sp ≤ 2 * k ∧ -(2 * k) ≤ sh ∧ sh ≤ 2 * k) ∧ Below w.heap.size w wr

theorem kept_more (l : List (Int × Int)) (k : Nat) (x : Int × Int) (h : l[k]? = some x) : kept (l.take (k + 1)) = if goodB (turned x) = true then kept (l.take k) ++ [turned x] else kept (l.take k) := by
  have e : l.take (k + 1) = l.take k ++ [x] := by rw [List.take_add_one, h]; rfl
  unfold kept
  rw [e, List.map_append, List.filter_append]
  split
  · rename_i hg; simp [hg]
  · rename_i hg; simp [hg]

theorem quiet_eq {P : Program} {f : FuncId} {args : Array Value} {w : World} {n : Nat} {v : Value} (h : Calls P f args (w.drewN n) fun e w' => e = .returned v ∧ w.drewN n = w') : Calls P f args (w.drewN n) fun e w'' => e = .returned v ∧ ∃ m, w'' = w.drewN m :=
  h.mono fun _ _ ⟨he, hm⟩ => ⟨he, n, hm.symm⟩

theorem i64_mask16 (n : Int) : bits .and .i64 n 65535 = n % 65536 := by
  have h : (BitVec.ofInt 64 65535).toNat = 2 ^ 16 - 1 := by decide
  have key : (BitVec.ofInt 64 n &&& BitVec.ofInt 64 65535).toNat = (n % ((2 ^ 64 : Nat) : Int)).toNat % 2 ^ 16 := by
    rw [BitVec.toNat_and, BitVec.toNat_ofInt, h, Nat.and_two_pow_sub_one_eq_mod]
  show IntKind.i64.wrap ((BitVec.ofInt 64 n &&& BitVec.ofInt 64 65535).toNat : Nat) = n % 65536
  rw [key, IntKind.wrap_i64]
  omega
attribute [local go_sem] i64_mask16

set_option maxHeartbeats 1000000 in
set_option maxRecDepth 8000 in
theorem boundStraight_walk (A : Option Addr) (c : Nat) (l : List (Int × Int)) (w : World) (hl : Reads w w.heap.size 2 A l.length (insCells l)) :
    Calls Try.prog 3 #[.slice A l.length c] w fun e w' => e = .returned (.bool true) ∧ Below w.heap.size w w' := by
  obtain ⟨i0, hi, hz0, hz1, hz2⟩ := info_parts ins_info
  have HL := Lib.hid hl
  clear hl
  generalize hln : l.length = n at *
  have HLN := Lib.hid hln
  clear hln
  go_enter Try.func3, Try.ntmps3
  go_wp2_with fail
  refine (shown_any _).mono ?_
  rintro e w1 ⟨rfl, hb1⟩
  have hz := hb1.size
  go_wp2_with fail
  go_loopw [4, 5, 6, 7, 8] (fun v h need peak i wr => Inv w l n v h need peak i wr) (fun _ _ _ _ i _ => n - (intOf i).toNat)
  case atStart => exact ⟨0, [], 0, 0, 0, by omega, by omega, rfl, rfl, own_empty w1 _ 2 _ hz, rfl, rfl, rfl, rfl, ⟨by simp, by simp, by simp, by simp, by simp, by simp⟩, hb1.alloc hz _⟩
  case round =>
    obtain ⟨k, cs, need, high, peak, hk, hk30, rfl, hcs, hown, hs, rfl, rfl, rfl, hbd, hb⟩ := hrel
    obtain ⟨A', c', rfl, hrd⟩ := own_form hown
    obtain ⟨bd1, bd2, bd3, bd4, bd5, bd6⟩ := hbd
    have hsz := hb.size
    have hcl : cs.length ≤ 30 := by have h1 := kept_len (l.take k); rw [← hcs] at h1; have h2 := List.length_take_le k l; omega
    have HOWN := Lib.hid hown
    have HCS := Lib.hid hcs
    have HS := Lib.hid hs
    have HRD := Lib.hid hrd
    clear hown hcs hs hrd
    by_cases hlt : k < n ∧ k < 30
    · obtain ⟨hlt, hlt30⟩ := hlt
      obtain ⟨⟨op, ar⟩, hx⟩ : ∃ x, l[k]? = some x := ⟨_, List.getElem?_eq_getElem (by have := HLN.out; omega)⟩
      have hlr := HL.out.below hb (Nat.le_refl _)
      obtain ⟨b, off, rfl, hbB, hcells⟩ := hlr.2 (by omega)
      obtain ⟨g0, g1⟩ := insCells_at l k _ hx
      have d0 := hcells _ _ g0
      have d1 := hcells _ _ g1
      rw [← Nat.add_assoc] at d1
      have HKM := Lib.hid (kept_more l k _ hx)
      clear hcells hlr g0 g1 hx
      by_cases hg : goodB (turned (op, ar)) = true
      · have hkm := HKM.out
        rw [if_pos hg, ← HCS.out] at hkm
        have HKM2 := Lib.hid hkm
        simp only [goodB, turned, Bool.not_eq_true', Bool.or_eq_false_iff] at hg
        obtain ⟨⟨⟨g35, g36⟩, g37⟩, g38⟩ := hg
        clear hkm HKM
        have hmx := max_if
        go_wp2_with fail
        have hyb : 1 ≤ 1 + op % 65536 % 39 ∧ 1 + op % 65536 % 39 ≤ 39 := by omega
        have hty : turned (op, ar) = (1 + op % 65536 % 39, ar) := rfl
        rw [hty] at HKM2
        clear hty
        generalize 1 + op % 65536 % 39 = y at *
        have hT := takes_any y
        have hV := leaves_any y
        have ht := Bd.takes_bd y
        have hv := Bd.leaves_bd y
        have hst : Bd.sums (cs ++ [(y, ar)]) = ⟨max need (Bd.takes y - high), high - Bd.takes y + Bd.leaves y, max peak (high - Bd.takes y + Bd.leaves y)⟩ := by
          unfold Bd.sums at *
          rw [List.foldl_append, ← HS.out]
          rfl
        generalize Bd.takes y = t at *
        generalize Bd.leaves y = v at *
        obtain ⟨ht0, ht1⟩ := ht
        obtain ⟨hv0, hv1⟩ := hv
        have HST := Lib.hid hst
        have HT := Lib.hid hT
        have HV := Lib.hid hV
        clear hst hT hV
        refine (HT.out _).mono ?_
        rintro e w2 ⟨rfl, rfl⟩
        go_wp2_with fail
        have s1 : IntKind.i64.wrap (high - t) = high - t := IntWalk.i64_in _ (by omega)
        have s2 : IntKind.i64.wrap (high - t + v) = high - t + v := IntWalk.i64_in _ (by omega)
        go_quiet (first | (go_at_call 10; exact quiet_eq (HT.out _)) | (go_at_call 11; exact quiet_eq (HV.out _)))
        clear s1 s2
        obtain ⟨w3, hw3⟩ : ∃ w3, w3 = (wr.alloc (.cells #[.int .i64 y, .int .i64 ar] 25)).drewN nq := ⟨_, rfl⟩
        rw [← hw3]
        have hb3 : Below wr.heap.size wr w3 := by rw [hw3]; have h := (Below.refl wr.heap.size wr).alloc (Nat.le_refl _) (.cells #[.int .i64 y, .int .i64 ar] 25); exact ⟨h.os, h.tape, h.output, h.size, h.block⟩
        have hk3 : Blk w3 wr.heap.size 25 #[.int .i64 y, .int .i64 ar] := by rw [hw3]; exact (Blk.new _ _ _).drewN _
        have hz3 : w3.heap.size = wr.heap.size + 1 := by rw [hw3]; simp
        have e0 := hk3.cell 0
        have e1 := hk3.cell 1
        simp only [List.getElem?_toArray, List.getElem?_cons_zero, List.getElem?_cons_succ] at e0 e1
        have hown1 := ownsRow_below HOWN.out hb3 (Nat.le_refl _)
        have hown2 : (w3.alloc (.cells #[.int .i64 y, .int .i64 ar] 25)).ownsRow w.heap.size 25 2 (.slice A' cs.length c') cs.length (insCells cs) := ownsRow_below hown1 ((Below.refl _ _).alloc (Nat.le_refl _) _) (Nat.le_refl _)
        have HOWN2 := Lib.hid hown2
        have HOWN1 := Lib.hid hown1
        have hrs := Reads.one_new w3 25 [.int .i64 y, .int .i64 ar]
        have HRS := Lib.hid hrs
        have hlt3 : wr.heap.size < w3.heap.size := by omega
        have hb4 : Below w.heap.size w w3 := hb.trans (hb3.mono hsz)
        have hz4 : w.heap.size ≤ w3.heap.size := by omega
        clear hown1 hown2 hrs hw3 hk3 hz3 hb3 d0 d1 HOWN HRD HT HV HL
        go_wp2_with (at_builtin; refine wpList_append_any _ rfl (.tmp 72) (.tmp 74) _ rfl w.heap.size 25 i0 _ 2 16 Try.underlying22 hi hz0 hz1 hz2 rfl (by omega) (.slice A' cs.length c') cs.length (insCells cs) rfl HOWN2.out (w3.heap.size + 1) (some ⟨w3.heap.size, 0, none⟩) 1 1 [.int .i64 y, .int .i64 ar] rfl HRS.out (by simp [Value.oneCell']) (by unfold maxLen; omega) (by omega) (by simp; omega) ?_; intro v' w5 hown5 hg5 hat5)
        refine ⟨⟨k + 1, cs ++ [(y, ar)], _, _, _, by omega, by omega, by go_num, HKM2.out.symm, ?_, HST.out.symm, rfl, rfl, rfl, ⟨by omega, by omega, by omega, by omega, by omega, by omega⟩, ?_⟩, by simp [intOf]; omega⟩
        · rw [List.length_append, insCells_app]; exact hown5
        · refine Below.grown (hb4.alloc hz4 _) hg5 (by simp; omega) ?_
          intro g hg
          rcases HOWN1.out.2 with ⟨h, _⟩ | ⟨g', _, _, h, hle, _⟩
          · rw [h] at hg; simp [Value.ownBlock] at hg
          · rw [h] at hg; simp [Value.ownBlock] at hg; omega
      · have hkm := HKM.out
        rw [if_neg hg, ← HCS.out] at hkm
        have HKM2 := Lib.hid hkm
        have hg4 : 1 + op % 65536 % 39 = 35 ∨ 1 + op % 65536 % 39 = 36 ∨ 1 + op % 65536 % 39 = 37 ∨ 1 + op % 65536 % 39 = 38 := by
          simp [goodB, turned] at hg; omega
        clear hkm HKM hg
        have hend : ∀ o, Inv w l n (.slice A' cs.length c') (.int .i64 high) (.int .i64 need) (.int .i64 peak) (.int .i64 ((k : Int) + 1)) (wr.alloc o) :=
          fun o => ⟨k + 1, cs, need, high, peak, by omega, by omega, by go_num, HKM2.out.symm, ownsRow_below HOWN.out ((Below.refl _ _).alloc (Nat.le_refl _) _) (Nat.le_refl _), HS.out, rfl, rfl, rfl, ⟨by omega, by omega, by omega, by omega, by omega, by omega⟩, hb.alloc hsz _⟩
        have HEND := Lib.hid hend
        clear hend
        rcases hg4 with hg | hg | hg | hg
        all_goals
          go_wp2
          exact ⟨HEND.out _, by simp [intOf]; omega⟩
    · have hgd := kept_good (l.take k)
      rw [← HCS.out] at hgd
      have hlaw := Bd.code_good cs hgd (by omega)
      rw [← HS.out] at hlaw
      simp only at hlaw
      have HLAW := Lib.hid hlaw
      clear hgd hlaw HS HCS
      have hcases : (¬ k < n) ∨ (k < n ∧ ¬ (k : Int) < 30) := by omega
      have HCODE := Lib.hid (code_any A' none cs.length c' 0 0 wr.heap.size cs [] wr HRD.out Reads.none_ (Nat.le_refl _) rfl rfl (by omega) (by omega))
      rcases hcases with hc | ⟨hc, hc30⟩
      all_goals
        clear hlt
        go_wp2_with fail
        refine HCODE.out.mono ?_
        rintro e w4 ⟨rfl, hb4⟩
        have hb5 : Below w.heap.size w w4 := hb.trans (hb4.mono hsz)
        have hz5 := hb5.size
        by_cases hok : need ≤ 32 ∧ peak ≤ 32
        · rw [HLAW.out.1 hok]
          simp only [costV]
          obtain ⟨ok1, ok2⟩ := hok
          go_wp2
          go_ret
          exact ⟨rfl, hb5.alloc hz5 _⟩
        · obtain ⟨i, i0, i1, hi3⟩ := HLAW.out.2 hok
          rw [hi3]
          simp only [costV]
          rcases (show (32 < need) ∨ (need ≤ 32 ∧ 32 < peak) by omega) with h32 | ⟨h32, h32'⟩
          all_goals
            go_wp2
            go_ret
            exact ⟨rfl, hb5.alloc hz5 _⟩
end Go.Proofs.Ytgklchhgpnoliaa
