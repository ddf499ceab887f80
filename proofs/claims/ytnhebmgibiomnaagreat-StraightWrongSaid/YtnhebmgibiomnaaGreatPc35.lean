/- Parts of the proof, joined: MkA FwA StG. -/
import Derived.Deep.RegionLaw
import Derived.Test.YtnhebmgibiomnaaGreatPc34
set_option linter.unusedVariables false
set_option linter.unusedSimpArgs false
namespace Go.Proofs.YtnhebmgibiomnaaGreat
open Go.RowKit
end Go.Proofs.YtnhebmgibiomnaaGreat
namespace Go.Proofs.YtnhebmgibiomnaaGreat
open Go.RowKit
def insR (N0 : Nat) : Repr N0 (Int × Int) := Repr.pair Repr.int Repr.int
def codeR (N0 : Nat) : Repr N0 (List (Int × Int)) := Repr.row 96 (insR N0)
theorem insR_eq {N0 : Nat} {w : World} {B : Nat} {x : Int × Int} {cs : List Value} (h : (insR N0).rel w B x cs) : cs = [.int .i64 x.1, .int .i64 x.2] := by
  obtain ⟨_, _, rfl, ⟨rfl, _⟩, rfl, _⟩ := h; rfl
theorem insCells_flat (l : List (Int × Int)) : insCells l = l.flatMap fun x => [.int .i64 x.1, .int .i64 x.2] := by
  induction l with
  | nil => rfl
  | cons x r ih => simp [insCells, ih]
theorem codeR_reads {N0 : Nat} {w : World} {B : Nat} {A : Option Addr} {l : List (Int × Int)} (h : RowAt (insR N0) 96 w B A l) : Reads w B 2 A l.length (insCells l) := by
  rw [insCells_flat]; exact h.reads _ fun a cs h => insR_eq h
end Go.Proofs.YtnhebmgibiomnaaGreat
namespace Go.Proofs.YtnhebmgibiomnaaGreat
open Go.RowKit
end Go.Proofs.YtnhebmgibiomnaaGreat
namespace Go.Proofs.YtnhebmgibiomnaaGreat
open Go.RowKit
section
variable {P : Program} (w : World)
end
end Go.Proofs.YtnhebmgibiomnaaGreat
namespace Go.Proofs.YtnhebmgibiomnaaGreat
open Go.RowKit
section
variable {N0 : Nat} {α : Type} {R : Repr N0 α} {t : TypeId} {base : Nat} {w : World} {v : Value} {l : List α}
end
end Go.Proofs.YtnhebmgibiomnaaGreat
namespace Go.Proofs.YtnhebmgibiomnaaGreat
open Go.RowKit
structure MkC where
  M : Nat
  B : Nat
  sA : Option Addr
  sn : Nat
  sc : Nat
  c2 : Value
  c3 : Value
  c4 : Value
  c5 : Value
  c6 : Value
  c7 : Value
  c8 : Value
  c9 : Value
  c10 : Value
  c11 : Value
end Go.Proofs.YtnhebmgibiomnaaGreat
namespace Go.Proofs.YtnhebmgibiomnaaGreat
open Go.RowKit
section
variable (N0 : Nat) (m : MkC) (w0 : World)
end
section
variable {N0 : Nat} {m : MkC} {w0 wx wy : World} {ob : Nat} {vp ve : Value} {l : List (Int × Int × Bool)} {es : List Int}
end
end Go.Proofs.YtnhebmgibiomnaaGreat
namespace Go.Proofs.YtnhebmgibiomnaaGreat
open Go.RowKit Mc
theorem reads_first {w : World} {B size n m : Nat} {A : Option Addr} {xs : List Value} (h : Reads w B size A n xs) (hm : m ≤ n) : Reads w B size A m (xs.take (m * size)) := by
  refine ⟨by rw [List.length_take, h.1]; exact Nat.min_eq_left (Nat.mul_le_mul_right _ hm), fun hp => ?_⟩
  obtain ⟨b, off, e, hb, hc⟩ := h.2 (by omega)
  refine ⟨b, off, e, hb, fun j u hu => hc j u ?_⟩
  rw [List.getElem?_take] at hu
  split at hu
  · exact hu
  · cases hu
theorem insCells_first (l : List (Int × Int)) (n : Nat) : insCells (l.take n) = (insCells l).take (n * 2) := by
  induction l generalizing n with
  | nil => simp [insCells]
  | cons x r ih =>
    cases n with
    | zero => simp [insCells]
    | succ n => rw [List.take_succ_cons, insCells, ih, show (n + 1) * 2 = n * 2 + 1 + 1 by omega]; simp [insCells]
theorem ins_cut {w : World} {B k : Nat} {A : Option Addr} {l : List (Int × Int)} (h : Reads w B 2 A l.length (insCells l)) : Reads w B 2 A (l.take k).length (insCells (l.take k)) := by
  have hk : (l.take k).length ≤ l.length := by rw [List.length_take]; omega
  have := reads_first h hk
  rw [← insCells_first, show l.take (l.take k).length = l.take k by rw [List.length_take, List.take_eq_take_iff]; omega] at this
  exact this
def fewF (ll : List (List (Int × Int))) : List (List (Int × Int)) := (ll.take 6).map (List.take 12)
def FwI (w : World) (ll : List (List (Int × Int))) (cs : Array Value) (v i : Value) (wr : World) : Prop :=
  ∃ (k : Nat) (us : List Value), k ≤ ll.length ∧ k ≤ 6 ∧ i = .int .i64 (k : Int) ∧ wr.ownsRow w.heap.size 24 1 v k us ∧ (∀ (j : Nat) l, j < k → ll[j]? = some l → ∃ v, us[j]? = some v ∧ InsAt w w.heap.size v (l.take 12)) ∧ Grow w wr ∧ Blk wr w.heap.size 26 cs ∧ Blk wr (w.heap.size + 1) 26 #[.slice none 0 0, .slice none 0 0, .slice none 0 0, .int .i64 0]
theorem info_rowI : (Tryz.prog.info? 24).map (fun i => (i.zero, i.size, i.bytes)) = some (some (.slice none 0 0), 1, 24) := by kernel_rfl
set_option maxRecDepth 100000 in
set_option maxHeartbeats 4000000 in
theorem few18_any (w : World) (N0 B : Nat) (hB : B ≤ w.heap.size) (fA mA cA : Option Addr) (fc mc cc : Nat) (ll : List (List (Int × Int))) (ml : List (Int × Int)) (cl : List Int) (size : Int) (h1 : RowAt (codeR N0) 24 w B fA ll) (hml : ml.length ≤ mc) (hmc : mc ≤ maxLen) (hcl : cl.length ≤ cc) (hcc : cc ≤ maxLen) :
    Calls Tryz.prog 20 #[.agg #[.slice fA ll.length fc, .slice mA ml.length mc, .slice cA cl.length cc, .int .i64 size]] w fun e w' => ∃ A' c', e = .returned (.agg #[.slice A' (fewF ll).length c', .slice mA (ml.take 60).length mc, .slice cA (cl.take 8).length cc, .int .i64 size]) ∧ RowsAt w' w'.heap.size A' (fewF ll) ∧ Below w.heap.size w w' := by
  have H1 := Lib.hid h1
  obtain ⟨i0, hi0, hi1, hi2, hi3⟩ := info_m info_rowI
  obtain ⟨m, hm⟩ : ∃ m, m = (ml.take 60).length := ⟨_, rfl⟩
  obtain ⟨n, hn⟩ : ∃ n, n = (cl.take 8).length := ⟨_, rfl⟩
  rw [← hm, ← hn]
  rw [List.length_take] at hm hn
  have hmi : (if (60 : Int) < (ml.length : Int) then (60 : Int) else (ml.length : Int)) = (m : Int) := by split <;> omega
  have hni : (if (8 : Int) < (cl.length : Int) then (8 : Int) else (cl.length : Int)) = (n : Int) := by split <;> omega
  have hm1 : m ≤ ml.length := by omega
  have hmq : m ≤ mc := by omega
  have hnq : n ≤ cc := by omega
  have hn1 : n ≤ cl.length := by omega
  unfold maxLen at hmc hcc
  have hmc' : (mc : Int) ≤ 9223372036854775807 := by omega
  have hcc' : (cc : Int) ≤ 9223372036854775807 := by omega
  obtain ⟨X, hX⟩ : ∃ X, X = (w.alloc (.cells #[.slice fA ll.length fc, .slice mA ml.length mc, .slice cA cl.length cc, .int .i64 size] 26)).alloc (.cells #[.slice none 0 0, .slice none 0 0, .slice none 0 0, .int .i64 0] 26) := ⟨_, rfl⟩
  have HG := Lib.hid (show Grow w X by rw [hX]; exact ((Fr.refl _ w).alloc _).alloc _)
  have HB0 := Lib.hid (show Blk X w.heap.size 26 #[.slice fA ll.length fc, .slice mA ml.length mc, .slice cA cl.length cc, .int .i64 size] by rw [hX]; exact (Blk.new _ _ _).alloc _)
  have HB1 := Lib.hid (show Blk X (w.heap.size + 1) 26 #[.slice none 0 0, .slice none 0 0, .slice none 0 0, .int .i64 0] by rw [hX]; exact Blk.new_at _ _ _ (by simp))
  have HX := Lib.hid hX
  clear hX h1 hm hn hmc hcc
  go_enter Tryz.func20, Tryz.ntmps20
  go_upto_region 1 with fail
  rw [← HX.out]
  clear HX
  go_wp2_with fail
  go_loopw [3, 4] (fun v i wr => FwI w ll #[.slice fA ll.length fc, .slice mA ml.length mc, .slice cA cl.length cc, .int .i64 size] v i wr) (fun _ i _ => ll.length - (intOf i).toNat)
  case atStart => exact ⟨0, [], Nat.zero_le _, Nat.zero_le _, rfl, owns_nil _ _ _ _, fun j l h => absurd h (Nat.not_lt_zero _), HG.out, HB0.out, HB1.out⟩
  case round =>
    obtain ⟨k, us, hk, hk6, rfl, ho, hus, hg, hb0, hb1⟩ := hrel
    clear HG HB0 HB1
    obtain ⟨Ap, cp, rfl, _⟩ := owns_form ho
    have HO := Lib.hid ho
    have HUS := Lib.hid hus
    have HG := Lib.hid hg
    have HB0 := Lib.hid hb0
    have HB1 := Lib.hid hb1
    have p0 := hb0.cell 0
    have p1 := hb0.cell 1
    have p2 := hb0.cell 2
    have p3 := hb0.cell 3
    simp only [List.getElem?_toArray, List.getElem?_cons_zero, List.getElem?_cons_succ] at p0 p1 p2 p3
    have hpl := hb0.lt
    have hrl := hb1.lt
    clear ho hus hg hb0 hb1
    by_cases hlt : k < ll.length ∧ k < 6
    · obtain ⟨x, hx⟩ : ∃ x, ll[k]? = some x := ⟨_, List.getElem?_eq_getElem hlt.1⟩
      obtain ⟨bf, off, _, hA, hbB, ⟨Al, cx, rfl, hc1, hc2, hr⟩, hcell⟩ := H1.out.get hx
      subst hA
      have d0 := (HG.out.cell (p := ⟨bf, off + k * 1 + 0, none⟩) (Nat.lt_of_lt_of_le hbB hB) (fun x => x)).trans (hcell 0 _ rfl)
      have e : off + k * 1 + 0 = off + k := by omega
      rw [e] at d0
      have hbr : bf < wr.heap.size := by omega
      have hki : (k : Int) < ll.length := by omega
      have hk6i : (k : Int) < 6 := by omega
      have hk6d : decide ((k : Int) < 6) = true := by simpa using hk6i
      obtain ⟨q, hq⟩ : ∃ q, q = (x.take 12).length := ⟨_, rfl⟩
      have HQ := Lib.hid hq
      rw [List.length_take] at hq
      have hqi : (if (12 : Int) < (x.length : Int) then (12 : Int) else (x.length : Int)) = (q : Int) := by split <;> omega
      have hq1 : q ≤ x.length := by omega
      unfold maxLen at hc2
      have hcx : (cx : Int) ≤ 9223372036854775807 := by omega
      have hqc : q ≤ cx := by omega
      have HLR := Lib.hid ((ins_cut (k := 12) (codeR_reads hr)).more hB)
      have HXX := Lib.hid hx
      have hwk : IntKind.i64.wrap ((k : Int) + 1) = (k : Int) + 1 := IntWalk.i64_in _ (by omega)
      obtain ⟨lt1, lt2⟩ := hlt
      clear hr hcell hq hc2 hx e hk hk6 lt1
      go_upto_region 5 with fail
      have hS : wr.drew.cell? ⟨w.heap.size, 0, none⟩ = some (.slice (some ⟨bf, off, none⟩) ll.length fc) ∧ wr.drew.cell? ⟨bf, off + k, none⟩ = some (.slice Al x.length cx) := ⟨p0, d0⟩
      refine wp_region_seqT (fun i => !([14, 15] : List Nat).contains i) (fun i => ([2, 5, 7, 10] : List Nat).contains i) (fun i => ([] : List Nat).contains i) [0, 1, 2, 3, 4, 5, 6, 7, 8, 9, 10, 11, 12, 13, 14, 15, 16] (fun wq : World => wq.cell? ⟨w.heap.size, 0, none⟩ = some (.slice (some ⟨bf, off, none⟩) ll.length fc) ∧ wq.cell? ⟨bf, off + k, none⟩ = some (.slice Al x.length cx)) (by kernel_rfl) (by kernel_rfl) (by kernel_rfl) (by kernel_rfl) ?_
      iterate 14 (first | refine wpSeq_pureA (v := _) rfl rfl rfl ?_ | refine wpSeq_loadA (v := _) rfl rfl hS rfl ?_)
      refine wpSeq_heavy rfl rfl (fun K hK => ?_); go_simp
      refine hK _ _ (fun h => by cases h) ?_; clear hK K
      refine wpSeq_heavy rfl rfl (fun K hK => ?_)
      refine step_own _ rfl (.tmp 16) (.tmp 30) _ rfl w.heap.size 24 i0 _ 1 24 Tryz.underlying23 hi0 hi1 hi2 hi3 rfl (by decide) (.slice Ap k cp) k us rfl (ownsRow_below (w' := wr.drew.alloc (.cells #[.slice Al q cx] 24)) HO.out ((Below.refl _ _).drew.alloc (Nat.le_refl _) _) (Nat.le_refl _)) _ (some ⟨wr.heap.size, 0, none⟩) 1 1 [.slice Al q cx] rfl (Reads.one_new wr.drew 24 [.slice Al q cx]) (by simp [Value.oneCell']) (by unfold maxLen; omega) (by omega) (by show w.heap.size ≤ (wr.drew.alloc _).heap.size; simp only [World.size_alloc, World.size_drew]; omega) ?_
      intro v' w2 ho2 hg2 _
      obtain ⟨A2, c2, rfl, _⟩ := owns_form ho2
      have HO2 := Lib.hid ho2
      have hgd : Grow wr (wr.drew.alloc (.cells #[.slice Al q cx] 24)) := ((Fr.refl _ wr).drew).alloc _
      have HG2 := Lib.hid (grow_of_grown (HG.out.trans hgd) hg2 (fun g e => (owns_block HO.out e).1))
      have HB2 := Lib.hid ((hgd.blk HB0.out (fun x => x)).grown hg2 (fun e => by have := owns_block HO.out e.symm; obtain ⟨_, _, cs, hcs⟩ := this; exact absurd rfl (Blk.ne_ HB0.out hcs (by decide))))
      have HC2 := Lib.hid ((hgd.blk HB1.out (fun x => x)).grown hg2 (fun e => by have := owns_block HO.out e.symm; obtain ⟨_, _, cs, hcs⟩ := this; exact absurd rfl (Blk.ne_ HB1.out hcs (by decide))))
      clear ho2 hg2 hgd HG HB0 HB1 p0 p1 p2 p3 d0 hpl hrl hbr hS
      refine hK _ _ (fun h => by cases h) ?_; clear hK K
      iterate 1 (first | refine wpSeq_pureA (v := _) rfl rfl rfl ?_ | refine wpSeq_loadA (v := _) rfl rfl hS rfl ?_)
      refine wpSeq_end ?_
      go_wp2_with fail
      go_roundw
      case rel =>
        refine ⟨k + 1, us ++ [.slice Al q cx], by omega, by omega, by go_num, HO2.out, fun j l hj hl => ?_, HG2.out, HB2.out, HC2.out⟩
        have hul : us.length = k := by have := HO.out.1; omega
        by_cases e : j = k
        · subst e
          rw [HXX.out] at hl
          cases hl
          exact ⟨_, by rw [List.getElem?_append_right (by omega), hul, Nat.sub_self]; rfl, Al, cx, by rw [← HQ.out], HLR.out⟩
        · obtain ⟨v, hv, hi⟩ := HUS.out j l (by omega) hl
          exact ⟨v, by rw [List.getElem?_append_left (by omega)]; exact hv, hi⟩
      case measure => simp [intOf]; omega
    · have hke : k = (ll.take 6).length := by rw [List.length_take]; omega
      have hrows : RowsAt w w.heap.size Ap (fewF ll) ∨ True := .inr trivial
      clear hrows
      obtain ⟨fn, hfn⟩ : ∃ n, n = (fewF ll).length := ⟨_, rfl⟩
      have hkf : k = fn := by rw [hfn, hke]; unfold fewF; rw [List.length_map]
      subst hkf
      have HFN := Lib.hid hfn
      have r0 := HB1.out.cell
      have r1 := HB1.out.frozen
      clear hke hfn
      by_cases hl : (k : Int) < ll.length
      · have h6 : ¬ ((k : Int) < 6) := by omega
        go_upto_region 6 with fail
        have hS : wr.drew.cell? ⟨w.heap.size, 1, none⟩ = some (.slice mA ml.length mc) ∧ wr.drew.cell? ⟨w.heap.size, 2, none⟩ = some (.slice cA cl.length cc) ∧ wr.drew.cell? ⟨w.heap.size, 3, none⟩ = some (.int .i64 size) := ⟨p1, p2, p3⟩
        refine wp_region_seqT (fun i => !([18] : List Nat).contains i) (fun i => ([2, 4, 9, 11, 16] : List Nat).contains i) (fun i => ([] : List Nat).contains i) [0, 1, 2, 3, 4, 5, 6, 7, 8, 9, 10, 11, 12, 13, 14, 15, 16, 17, 18] (fun wq : World => wq.cell? ⟨w.heap.size, 1, none⟩ = some (.slice mA ml.length mc) ∧ wq.cell? ⟨w.heap.size, 2, none⟩ = some (.slice cA cl.length cc) ∧ wq.cell? ⟨w.heap.size, 3, none⟩ = some (.int .i64 size)) (by kernel_rfl) (by kernel_rfl) (by kernel_rfl) (by kernel_rfl) ?_
        iterate 18 (first | refine wpSeq_pureA (v := _) rfl rfl rfl ?_ | refine wpSeq_loadA (v := _) rfl rfl hS rfl ?_)
        refine wpSeq_heavy rfl rfl (fun K hK => ?_); go_simp
        have hN := (((((HB1.out.set_ 0 (.slice Ap k cp)).set_ 1 (.slice mA m mc)).set_ 2 (.slice cA n cc)).set_ 3 (.int .i64 size)) : Blk ((((wr.setCell ⟨w.heap.size + 1, 0, none⟩ (.slice Ap k cp)).setCell ⟨w.heap.size + 1, 1, none⟩ (.slice mA m mc)).setCell ⟨w.heap.size + 1, 2, none⟩ (.slice cA n cc)).setCell ⟨w.heap.size + 1, 3, none⟩ (.int .i64 size)) _ _ _)
        simp only [List.setIfInBounds_toArray, List.set_cons_zero, List.set_cons_succ] at hN
        have HN := Lib.hid hN.drew
        have HBW := Lib.hid (show Below w.heap.size w ((((wr.setCell ⟨w.heap.size + 1, 0, none⟩ (.slice Ap k cp)).setCell ⟨w.heap.size + 1, 1, none⟩ (.slice mA m mc)).setCell ⟨w.heap.size + 1, 2, none⟩ (.slice cA n cc)).setCell ⟨w.heap.size + 1, 3, none⟩ (.int .i64 size)).drew from ((((((Grow.below HG.out (Nat.le_refl _)).setCell (p := ⟨w.heap.size + 1, 0, none⟩) (Nat.le_succ _) _).setCell (p := ⟨w.heap.size + 1, 1, none⟩) (Nat.le_succ _) _).setCell (p := ⟨w.heap.size + 1, 2, none⟩) (Nat.le_succ _) _).setCell (p := ⟨w.heap.size + 1, 3, none⟩) (Nat.le_succ _) _).drew))
        have HO2 := Lib.hid (owns_keep (w' := ((((wr.setCell ⟨w.heap.size + 1, 0, none⟩ (.slice Ap k cp)).setCell ⟨w.heap.size + 1, 1, none⟩ (.slice mA m mc)).setCell ⟨w.heap.size + 1, 2, none⟩ (.slice cA n cc)).setCell ⟨w.heap.size + 1, 3, none⟩ (.int .i64 size)).drew) HO.out fun g e => by have := (owns_block HO.out e); obtain ⟨_, _, cs, hcs⟩ := this; have hne : g ≠ w.heap.size + 1 := (fun e => by subst e; exact Blk.ne_ hcs HB1.out (by decide) rfl); exact ((((Blk.far hcs (p := ⟨w.heap.size + 1, 0, none⟩) hne _).far (p := ⟨w.heap.size + 1, 1, none⟩) hne _).far (p := ⟨w.heap.size + 1, 2, none⟩) hne _).far (p := ⟨w.heap.size + 1, 3, none⟩) hne _).trans hcs.symm)
        clear hS p0 p1 p2 p3 hpl hrl r0 r1 hN HB1 HB0 HG HO
        generalize ((((wr.setCell ⟨w.heap.size + 1, 0, none⟩ (.slice Ap k cp)).setCell ⟨w.heap.size + 1, 1, none⟩ (.slice mA m mc)).setCell ⟨w.heap.size + 1, 2, none⟩ (.slice cA n cc)).setCell ⟨w.heap.size + 1, 3, none⟩ (.int .i64 size)).drew = V at *
        refine hK _ _ (fun h => by cases h) ?_; clear hK K
        refine wpSeq_end ?_
        have y0 := HN.out.cell 0
        have y1 := HN.out.cell 1
        have y2 := HN.out.cell 2
        have y3 := HN.out.cell 3
        have yl := HN.out.lt
        simp only [List.getElem?_toArray, List.getElem?_cons_zero, List.getElem?_cons_succ] at y0 y1 y2 y3
        go_wp2_with fail
        refine bodyPost_ret (v := .agg #[.slice Ap k cp, .slice mA m mc, .slice cA n cc, .int .i64 size]) (by simp [results, Tryz.results20, go_sem, y0, y1, y2, y3]) rfl ⟨Ap, ⟨cp, by rw [← HFN.out]⟩, ?_, HBW.out⟩
        refine ⟨us, by rw [← HFN.out]; exact Reads.of_own HO2.out, fun i l hl => ?_⟩
        obtain ⟨l0, hl0, rfl⟩ : ∃ l0, (ll.take 6)[i]? = some l0 ∧ l = l0.take 12 := by
          unfold fewF at hl
          rw [List.getElem?_map] at hl
          cases e : (ll.take 6)[i]? with
          | none => rw [e] at hl; cases hl
          | some l0 => rw [e] at hl; cases hl; exact ⟨l0, rfl, rfl⟩
        have hi6 := (List.getElem?_eq_some_iff.1 hl0).1
        rw [List.length_take] at hi6
        rw [List.getElem?_take, if_pos (by omega)] at hl0
        obtain ⟨v, hv, hin⟩ := HUS.out i l0 (by omega) hl0
        exact ⟨v, hv, (hin.below HBW.out (Nat.le_refl _)).more HBW.out.size⟩
      · go_upto_region 6 with fail
        have hS : wr.drew.cell? ⟨w.heap.size, 1, none⟩ = some (.slice mA ml.length mc) ∧ wr.drew.cell? ⟨w.heap.size, 2, none⟩ = some (.slice cA cl.length cc) ∧ wr.drew.cell? ⟨w.heap.size, 3, none⟩ = some (.int .i64 size) := ⟨p1, p2, p3⟩
        refine wp_region_seqT (fun i => !([18] : List Nat).contains i) (fun i => ([2, 4, 9, 11, 16] : List Nat).contains i) (fun i => ([] : List Nat).contains i) [0, 1, 2, 3, 4, 5, 6, 7, 8, 9, 10, 11, 12, 13, 14, 15, 16, 17, 18] (fun wq : World => wq.cell? ⟨w.heap.size, 1, none⟩ = some (.slice mA ml.length mc) ∧ wq.cell? ⟨w.heap.size, 2, none⟩ = some (.slice cA cl.length cc) ∧ wq.cell? ⟨w.heap.size, 3, none⟩ = some (.int .i64 size)) (by kernel_rfl) (by kernel_rfl) (by kernel_rfl) (by kernel_rfl) ?_
        iterate 18 (first | refine wpSeq_pureA (v := _) rfl rfl rfl ?_ | refine wpSeq_loadA (v := _) rfl rfl hS rfl ?_)
        refine wpSeq_heavy rfl rfl (fun K hK => ?_); go_simp
        have hN := (((((HB1.out.set_ 0 (.slice Ap k cp)).set_ 1 (.slice mA m mc)).set_ 2 (.slice cA n cc)).set_ 3 (.int .i64 size)) : Blk ((((wr.setCell ⟨w.heap.size + 1, 0, none⟩ (.slice Ap k cp)).setCell ⟨w.heap.size + 1, 1, none⟩ (.slice mA m mc)).setCell ⟨w.heap.size + 1, 2, none⟩ (.slice cA n cc)).setCell ⟨w.heap.size + 1, 3, none⟩ (.int .i64 size)) _ _ _)
        simp only [List.setIfInBounds_toArray, List.set_cons_zero, List.set_cons_succ] at hN
        have HN := Lib.hid hN.drew
        have HBW := Lib.hid (show Below w.heap.size w ((((wr.setCell ⟨w.heap.size + 1, 0, none⟩ (.slice Ap k cp)).setCell ⟨w.heap.size + 1, 1, none⟩ (.slice mA m mc)).setCell ⟨w.heap.size + 1, 2, none⟩ (.slice cA n cc)).setCell ⟨w.heap.size + 1, 3, none⟩ (.int .i64 size)).drew from ((((((Grow.below HG.out (Nat.le_refl _)).setCell (p := ⟨w.heap.size + 1, 0, none⟩) (Nat.le_succ _) _).setCell (p := ⟨w.heap.size + 1, 1, none⟩) (Nat.le_succ _) _).setCell (p := ⟨w.heap.size + 1, 2, none⟩) (Nat.le_succ _) _).setCell (p := ⟨w.heap.size + 1, 3, none⟩) (Nat.le_succ _) _).drew))
        have HO2 := Lib.hid (owns_keep (w' := ((((wr.setCell ⟨w.heap.size + 1, 0, none⟩ (.slice Ap k cp)).setCell ⟨w.heap.size + 1, 1, none⟩ (.slice mA m mc)).setCell ⟨w.heap.size + 1, 2, none⟩ (.slice cA n cc)).setCell ⟨w.heap.size + 1, 3, none⟩ (.int .i64 size)).drew) HO.out fun g e => by have := (owns_block HO.out e); obtain ⟨_, _, cs, hcs⟩ := this; have hne : g ≠ w.heap.size + 1 := (fun e => by subst e; exact Blk.ne_ hcs HB1.out (by decide) rfl); exact ((((Blk.far hcs (p := ⟨w.heap.size + 1, 0, none⟩) hne _).far (p := ⟨w.heap.size + 1, 1, none⟩) hne _).far (p := ⟨w.heap.size + 1, 2, none⟩) hne _).far (p := ⟨w.heap.size + 1, 3, none⟩) hne _).trans hcs.symm)
        clear hS p0 p1 p2 p3 hpl hrl r0 r1 hN HB1 HB0 HG HO
        generalize ((((wr.setCell ⟨w.heap.size + 1, 0, none⟩ (.slice Ap k cp)).setCell ⟨w.heap.size + 1, 1, none⟩ (.slice mA m mc)).setCell ⟨w.heap.size + 1, 2, none⟩ (.slice cA n cc)).setCell ⟨w.heap.size + 1, 3, none⟩ (.int .i64 size)).drew = V at *
        refine hK _ _ (fun h => by cases h) ?_; clear hK K
        refine wpSeq_end ?_
        have y0 := HN.out.cell 0
        have y1 := HN.out.cell 1
        have y2 := HN.out.cell 2
        have y3 := HN.out.cell 3
        have yl := HN.out.lt
        simp only [List.getElem?_toArray, List.getElem?_cons_zero, List.getElem?_cons_succ] at y0 y1 y2 y3
        go_wp2_with fail
        refine bodyPost_ret (v := .agg #[.slice Ap k cp, .slice mA m mc, .slice cA n cc, .int .i64 size]) (by simp [results, Tryz.results20, go_sem, y0, y1, y2, y3]) rfl ⟨Ap, ⟨cp, by rw [← HFN.out]⟩, ?_, HBW.out⟩
        refine ⟨us, by rw [← HFN.out]; exact Reads.of_own HO2.out, fun i l hl => ?_⟩
        obtain ⟨l0, hl0, rfl⟩ : ∃ l0, (ll.take 6)[i]? = some l0 ∧ l = l0.take 12 := by
          unfold fewF at hl
          rw [List.getElem?_map] at hl
          cases e : (ll.take 6)[i]? with
          | none => rw [e] at hl; cases hl
          | some l0 => rw [e] at hl; cases hl; exact ⟨l0, rfl, rfl⟩
        have hi6 := (List.getElem?_eq_some_iff.1 hl0).1
        rw [List.length_take] at hi6
        rw [List.getElem?_take, if_pos (by omega)] at hl0
        obtain ⟨v, hv, hin⟩ := HUS.out i l0 (by omega) hl0
        exact ⟨v, hv, (hin.below HBW.out (Nat.le_refl _)).more HBW.out.size⟩
end Go.Proofs.YtnhebmgibiomnaaGreat
namespace Go.Proofs.YtnhebmgibiomnaaGreat
open Go.RowKit Mc
theorem code_i64 {N0 : Nat} {w : World} {B : Nat} {A : Option Addr} {l : List (Int × Int)} (h : RowAt (insR N0) 96 w B A l) : ∀ x ∈ l, I64 x.2 := fun x hx => by
  obtain ⟨i, hi⟩ := List.getElem?_of_mem hx
  obtain ⟨_, _, _, _, _, hrel, _⟩ := h.get hi
  obtain ⟨_, _, _, _, hr⟩ := hrel
  exact hr.2
theorem rows_i64 {N0 : Nat} {w : World} {B : Nat} {A : Option Addr} {ll : List (List (Int × Int))} (h : RowAt (codeR N0) 24 w B A ll) : ∀ l ∈ ll, ∀ x ∈ l, I64 x.2 := fun l hl => by
  obtain ⟨i, hi⟩ := List.getElem?_of_mem hl
  obtain ⟨_, _, _, _, _, hrel, _⟩ := h.get hi
  obtain ⟨_, _, _, _, _, hr⟩ := hrel
  exact code_i64 hr
theorem fewF_mem {ll : List (List (Int × Int))} {l : List (Int × Int)} (h : l ∈ fewF ll) : ∃ l0 ∈ ll, l = l0.take 12 := by
  unfold fewF at h
  obtain ⟨l0, h0, rfl⟩ := List.mem_map.1 h
  exact ⟨l0, List.mem_of_mem_take h0, rfl⟩
end Go.Proofs.YtnhebmgibiomnaaGreat
