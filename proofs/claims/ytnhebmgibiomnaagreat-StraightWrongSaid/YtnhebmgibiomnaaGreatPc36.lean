/- Parts of the proof, joined: WrA WrB. -/
import Derived.Test.YtnhebmgibiomnaaGreatPc25
import Derived.Test.YtnhebmgibiomnaaGreatPc29
set_option linter.unusedVariables false
set_option linter.unusedSimpArgs false
namespace Go.Proofs.YtnhebmgibiomnaaGreat
open Go.RowKit Mc
namespace Bu
def kst (l : List (Int × Int)) (i : Nat) : List Bool := (st [] [] l i).known
theorem kst_zero (l : List (Int × Int)) : kst l 0 = true :: List.replicate l.length false := by simp [kst, st, planGo, start]
theorem kst_succ {l : List (Int × Int)} {i : Nat} {x : Int × Int} (h : l[i]? = some x) : kst l (i + 1) = if (kst l i).getD i false = false then kst l i else if x.1 = 35 then (kst l i).set (i + 1 + x.2.toNat) true else if x.1 = 36 then ((kst l i).set (i + 1) true).set (i + 1 + x.2.toNat) true else (kst l i).set (i + 1) true := by
  unfold kst
  rw [st_succ [] [] h]
  generalize st [] [] l i = s
  unfold plan1
  split
  · rfl
  · dsimp only
    unfold jump
    by_cases h35 : x.1 = 35
    · rw [if_pos h35, if_pos h35, if_pos (.inl h35)]
    · rw [if_neg h35, if_neg h35]
      by_cases h36 : x.1 = 36
      · rw [if_pos h36, if_pos (.inr h36)]
        by_cases ha : i + 1 + x.2.toNat = i + 1
        · rw [ha]
        · exact List.set_comm _ _ ha
      · rw [if_neg h36, if_neg (by omega), Nat.add_zero]
        rw [List.set_set]
theorem kst_len (l : List (Int × Int)) : ∀ i, i ≤ l.length → (kst l i).length = l.length + 1
  | 0, _ => by rw [kst_zero]; simp
  | i + 1, h => by
    have ih := kst_len l i (by omega)
    rw [kst_succ (List.getElem?_eq_getElem (by omega))]
    split
    · exact ih
    · split
      · rw [List.length_set]; exact ih
      · split <;> (simp only [List.length_set]; exact ih)
theorem kst_st (fs : List Bd.Cost) (ps : List Plan) (l : List (Int × Int)) : ∀ i, i ≤ l.length → (st fs ps l i).known = kst l i
  | 0, _ => rfl
  | i + 1, h => by
    have ih := kst_st fs ps l i (by omega)
    have hx : l[i]? = some (l[i]'(by omega)) := List.getElem?_eq_getElem (by omega)
    unfold kst at ih ⊢
    rw [st_succ fs ps hx, st_succ [] [] hx]
    unfold plan1
    rw [ih]
    split
    · exact ih
    · rfl
end Bu
def KnI (w : World) (l : List (Int × Int)) (i : Value) (wr : World) : Prop := ∃ k : Nat, k ≤ l.length ∧ i = .int .i64 (k : Int) ∧ Blk wr w.heap.size 4 (bools (Bu.kst l k)).toArray ∧ Below w.heap.size w wr
theorem bools_setA (l : List Bool) (i : Nat) (v : Bool) : (bools l).toArray.setIfInBounds i (.bool v) = (bools (l.set i v)).toArray := by
  simp [bools, List.map_set]
theorem blk_bool {W : World} {g : Nat} {l : List Bool} (h : Blk W g 4 (bools l).toArray) {i : Nat} (hi : i < l.length) : W.cell? ⟨g, i, none⟩ = some (.bool (l.getD i false)) := by
  rw [h.cell i]
  simp [bools, List.getD_eq_getElem?_getD, List.getElem?_eq_getElem hi]
theorem blk_boolS {W : World} {g : Nat} {l : List Bool} (h : Blk W g 4 (bools l).toArray) (i : Nat) (v : Bool) : Blk (W.setCell ⟨g, i, none⟩ (.bool v)) g 4 (bools (l.set i v)).toArray := by
  rw [← bools_setA]
  exact h.set_ i _
set_option maxRecDepth 100000 in
set_option maxHeartbeats 4000000 in
theorem rknown_any (l : List (Int × Int)) (A : Option Addr) (c B : Nat) (w : World) (h : Reads w B 2 A l.length (pts l)) (hB : B ≤ w.heap.size) (hl : l.length ≤ 100000) (hj : ∀ (i : Nat) x, l[i]? = some x → i + 1 + Bu.jump x ≤ l.length) (ha : ∀ x ∈ l, (x.1 = 35 ∨ x.1 = 36) → 0 ≤ x.2) :
    Calls Tryz.prog 69 #[.slice A l.length c] w fun e w' => e = .returned (.slice (some ⟨w.heap.size, 0, none⟩) (l.length + 1) (l.length + 1)) ∧ Blk w' w.heap.size 4 (bools (Bu.kst l l.length)).toArray ∧ Below w.heap.size w w' := by
  have HL := Lib.hid h
  have HJ := Lib.hid hj
  have HA := Lib.hid ha
  have HLN := Lib.hid hl
  have hmb : ∀ W : World, (Instr.makeSlice 142 (.int .i64 ((l.length : Int) + 1)) (.int .i64 ((l.length : Int) + 1))).run Tryz.prog W = .ok (.slice (some ⟨W.heap.size, 0, none⟩) (l.length + 1) (l.length + 1)) (W.alloc (.cells (bools (List.replicate (l.length + 1) false)).toArray 4)) := fun W => by
    have := make_bools (l.length + 1) (by omega) W
    rwa [show ((l.length + 1 : Nat) : Int) = (l.length : Int) + 1 by omega] at this
  have hw1 : IntKind.i64.wrap ((l.length : Int) + 1) = (l.length : Int) + 1 := IntWalk.i64_in _ (by omega)
  have hz := Bu.kst_zero l
  have hb0 : Blk ((w.alloc (.cells (bools (List.replicate (l.length + 1) false)).toArray 4)).setCell ⟨w.heap.size, 0, none⟩ (.bool true)) w.heap.size 4 (bools (Bu.kst l 0)).toArray := by
    rw [hz]
    exact blk_boolS (Blk.new w 4 _) 0 true
  have hc0 : (w.alloc (.cells (bools (List.replicate (l.length + 1) false)).toArray 4)).cell? ⟨w.heap.size, 0, none⟩ = some (.bool false) := by
    rw [blk_bool (Blk.new w 4 _) (by simp)]
    simp
  have hf0 := (Blk.new w 4 (bools (List.replicate (l.length + 1) false)).toArray).frozen 0
  have hbw0 : Below w.heap.size w ((w.alloc (.cells (bools (List.replicate (l.length + 1) false)).toArray 4)).setCell ⟨w.heap.size, 0, none⟩ (.bool true)) := ((Below.refl _ _).alloc (Nat.le_refl _) _).setCell (p := ⟨w.heap.size, 0, none⟩) (Nat.le_refl _) _
  have HB0 := Lib.hid hb0
  have HW0 := Lib.hid hbw0
  have h01 : (0 : Int) < (l.length : Int) + 1 := by omega
  clear h hj ha hl hz hb0 hbw0
  go_enter Tryz.func69, Tryz.ntmps69
  go_upto_region 2 with fail
  generalize hX : w.alloc (.cells (bools (List.replicate (l.length + 1) false)).toArray 4) = X at *
  go_upto_region 3 with fail
  generalize X.setCell ⟨w.heap.size, 0, none⟩ (.bool true) = X1 at *
  clear hX hc0 hf0 hmb h01
  go_wp2_with fail
  go_loopw [4] (fun i wr => KnI w l i wr) (fun i _ => l.length - (intOf i).toNat)
  case atStart => exact ⟨0, Nat.zero_le _, rfl, HB0.out, HW0.out⟩
  case round =>
    obtain ⟨k, hk, rfl, hb, hbw⟩ := hrel
    have HBW := Lib.hid hbw
    have HBB := Lib.hid hb
    have hwl := hb.lt
    clear HB0 HW0
    by_cases hlt : k < l.length
    · obtain ⟨x, hx⟩ : ∃ x, l[k]? = some x := ⟨_, List.getElem?_eq_getElem hlt⟩
      have hs := Bu.kst_succ hx
      have hkl := Bu.kst_len l k hk
      have hj := HJ.out k x hx
      have ha := HA.out x (List.mem_of_getElem? hx)
      obtain ⟨y0, y1⟩ := pts_at l k x hx
      obtain ⟨b, off, rfl, hbB, hcell⟩ := HL.out.2 (by omega)
      have hbb : b < w.heap.size := Nat.lt_of_lt_of_le hbB hB
      have d0 := (hbw.cell (p := ⟨b, off + k * 2, none⟩) hbb).trans (hcell _ _ y0)
      have d1 := (hbw.cell (p := ⟨b, off + (k * 2 + 1), none⟩) hbb).trans (hcell _ _ y1)
      rw [← Nat.add_assoc] at d1
      have hki : (k : Int) < l.length := by omega
      have hki1 : (k : Int) < (l.length : Int) + 1 := by omega
      have hwk : IntKind.i64.wrap ((k : Int) + 1) = (k : Int) + 1 := IntWalk.i64_in _ (by have := HLN.out; omega)
      obtain ⟨op, a⟩ := x
      simp only at hs ha d0 d1
      unfold Bu.jump at hj
      simp only at hj
      generalize hK : Bu.kst l k = K at *
      have xk := blk_bool hb (i := k) (by omega)
      cases hkk : K.getD k false
      · rw [hkk] at xk
        rw [if_pos hkk] at hs
        have HS := Lib.hid hs
        clear hs hj ha y0 y1 hcell d0 d1 hK hkk hb hbw
        go_wp2_with fail
        go_roundw
        case rel => exact ⟨k + 1, by omega, by go_num, by rw [HS.out]; exact HBB.out, HBW.out⟩
        case measure => simp [intOf]; omega
      · rw [hkk] at xk
        rw [if_neg (by rw [hkk]; simp)] at hs
        by_cases h35 : op = 35
        · subst h35
          rw [if_pos rfl] at hs
          rw [if_pos (.inl rfl)] at hj
          have ha0 := ha (.inl rfl)
          obtain ⟨t, ht⟩ : ∃ t, t = k + 1 + a.toNat := ⟨_, rfl⟩
          have hwt : IntKind.i64.wrap ((k : Int) + 1 + a) = (t : Int) := (IntWalk.i64_in _ (by have := HLN.out; omega)).trans (by omega)
          have hti : (t : Int) < (l.length : Int) + 1 := by omega
          have xt := blk_bool hb (i := t) (by omega)
          have ft := hb.frozen t
          have HN := Lib.hid (blk_boolS hb t true)
          have HNW := Lib.hid (hbw.setCell (p := ⟨w.heap.size, t, none⟩) (Nat.le_refl _) (.bool true))
          rw [← ht] at hs
          have HS := Lib.hid hs
          clear hs hj ha y0 y1 hcell hK hkk hb hbw HBB HBW ha0 ht
          go_wp2_with fail
          go_roundw
          case rel => exact ⟨k + 1, by omega, by go_num, by rw [HS.out]; exact HN.out, HNW.out⟩
          case measure => simp [intOf]; omega
        · rw [if_neg h35] at hs
          have hne35 : (op != 35) = true := by simpa using h35
          have hnd35 : (op == 35) = false := by simpa using h35
          obtain ⟨u, hu⟩ : ∃ u, u = k + 1 := ⟨_, rfl⟩
          have hwu : IntKind.i64.wrap ((k : Int) + 1) = (u : Int) := hwk.trans (by omega)
          have hui : (u : Int) < (l.length : Int) + 1 := by omega
          have xu := blk_bool hb (i := u) (by omega)
          have fu := hb.frozen u
          have hku : K.set u true = K.set (k + 1) true := by rw [hu]
          have HN := Lib.hid (blk_boolS hb u true)
          have HNW := Lib.hid (hbw.setCell (p := ⟨w.heap.size, u, none⟩) (Nat.le_refl _) (.bool true))
          have hng : (K.set u true).getD k false = true := by
            rw [List.getD_eq_getElem?_getD, List.getElem?_set, if_neg (by omega), ← List.getD_eq_getElem?_getD]
            exact hkk
          have hnl : (K.set u true).length = l.length + 1 := by rw [List.length_set]; exact hkl
          rw [← hku] at hs
          have HU := Lib.hid hu
          have HWK := Lib.hid hwk
          clear hb hbw HBB HBW hu hku hwk y0 y1
          go_upto_region 8 with fail
          generalize wr.setCell ⟨w.heap.size, u, none⟩ (.bool true) = V at *
          clear d0 d1 xk xu fu hwu
          have e0 := (HNW.out.cell (p := ⟨b, off + k * 2, none⟩) hbb).trans (hcell _ _ (pts_at l k (op, a) hx).1)
          have e1 := (HNW.out.cell (p := ⟨b, off + (k * 2 + 1), none⟩) hbb).trans (hcell _ _ (pts_at l k (op, a) hx).2)
          rw [← Nat.add_assoc] at e1
          simp only at e0 e1
          have zk := blk_bool HN.out (i := k) (by omega)
          rw [hng] at zk
          have hwk := HWK.out
          have hwl' := HN.out.lt
          clear hcell hx hwl
          by_cases h36 : op = 36
          · subst h36
            rw [if_pos rfl] at hs
            rw [if_pos (.inr rfl)] at hj
            have ha0 := ha (.inr rfl)
            obtain ⟨t, ht⟩ : ∃ t, t = k + 1 + a.toNat := ⟨_, rfl⟩
            have hwt : IntKind.i64.wrap ((k : Int) + 1 + a) = (t : Int) := (IntWalk.i64_in _ (by have := HLN.out; omega)).trans (by omega)
            have hti : (t : Int) < (l.length : Int) + 1 := by omega
            have xt := blk_bool HN.out (i := t) (by omega)
            have ft := HN.out.frozen t
            have HN2 := Lib.hid (blk_boolS HN.out t true)
            have HNW2 := Lib.hid (HNW.out.setCell (p := ⟨w.heap.size, t, none⟩) (Nat.le_refl _) (.bool true))
            rw [← ht] at hs
            have HS := Lib.hid hs
            clear hs hj ha hK hkk HN HNW ha0 ht HU hng hnl h35
            go_wp2_with fail
            go_roundw
            case rel => exact ⟨k + 1, by omega, by go_num, by rw [HS.out]; exact HN2.out, HNW2.out⟩
            case measure => simp [intOf]; omega
          · rw [if_neg h36] at hs
            have hnd36 : (op == 36) = false := by simpa using h36
            have HS := Lib.hid hs
            clear hs hj ha hK hkk hng hnl h35 h36 HU
            go_wp2_with fail
            go_roundw
            case rel => exact ⟨k + 1, by omega, by go_num, by rw [HS.out]; exact HN.out, HNW.out⟩
            case measure => simp [intOf]; omega
    · obtain rfl : k = l.length := by omega
      go_wp2_with fail
      go_ret
      exact ⟨rfl, HBB.out, HBW.out⟩
end Go.Proofs.YtnhebmgibiomnaaGreat
namespace Go.Proofs.YtnhebmgibiomnaaGreat
open Go.RowKit Mc
namespace Bu
theorem getD_set_no {α : Type} (l : List α) {i k : Nat} (a d : α) (h : i ≠ k) : (l.set i a).getD k d = l.getD k d := by
  rw [List.getD_eq_getElem?_getD, List.getElem?_set, if_neg h, ← List.getD_eq_getElem?_getD]
theorem kst_keep (l : List (Int × Int)) (i : Nat) : ∀ j, i ≤ j → j ≤ l.length → (kst l j).getD i false = (kst l i).getD i false
  | 0, h, _ => by rw [show i = 0 by omega]
  | j + 1, h, hj => by
    by_cases e : i = j + 1
    · rw [e]
    · have ih := kst_keep l i j (by omega) (by omega)
      rw [← ih, kst_succ (List.getElem?_eq_getElem (by omega))]
      split
      · rfl
      · split
        · exact getD_set_no _ _ _ (by omega)
        · split
          · rw [getD_set_no _ _ _ (by omega), getD_set_no _ _ _ (by omega)]
          · exact getD_set_no _ _ _ (by omega)
def rsz (ps : List Plan) (l : List (Int × Int)) : Nat → Int
  | 0 => 0
  | i + 1 => rsz ps l i + if (kst l i).getD i false = true then sizeOf (l.getD i (0, 0)) ps else 0
theorem rsz_succ (ps : List Plan) {l : List (Int × Int)} {i : Nat} {x : Int × Int} (h : l[i]? = some x) : rsz ps l (i + 1) = rsz ps l i + if (kst l l.length).getD i false = true then sizeOf x ps else 0 := by
  have hi := (List.getElem?_eq_some_iff.1 h).1
  rw [rsz, kst_keep l i l.length (by omega) (Nat.le_refl _), show l.getD i (0, 0) = x by rw [List.getD_eq_getElem?_getD, h]; rfl]
theorem sizeOf_bd {ps : List Plan} (hs : ∀ p ∈ ps, 0 ≤ p.size ∧ p.size ≤ 20001) (x : Int × Int) : 0 ≤ sizeOf x ps ∧ sizeOf x ps ≤ 400000 := by
  have h : 0 ≤ (pl ps x.2).size ∧ (pl ps x.2).size ≤ 20001 := by
    unfold pl
    rw [List.getD_eq_getElem?_getD]
    cases e : ps[x.2.toNat]? with
    | none => simp
    | some p => exact hs p (List.mem_of_getElem? e)
  unfold sizeOf
  split
  · omega
  · split
    · omega
    · split <;> omega
theorem rsz_bd {ps : List Plan} (hs : ∀ p ∈ ps, 0 ≤ p.size ∧ p.size ≤ 20001) (l : List (Int × Int)) : ∀ i : Nat, 0 ≤ rsz ps l i ∧ rsz ps l i ≤ 400000 * (i : Int)
  | 0 => by simp [rsz]
  | i + 1 => by
    have ih := rsz_bd hs l i
    have h := sizeOf_bd hs (l.getD i (0, 0))
    rw [rsz]
    split <;> omega
theorem rsz_st (fs : List Bd.Cost) {ps : List Plan} (hs : ∀ p ∈ ps, 0 ≤ p.size ∧ p.size ≤ 20001) (l : List (Int × Int)) : ∀ i, i ≤ l.length → (st fs ps l i).size = min 20001 (rsz ps l i)
  | 0, _ => by show (0 : Int) = min 20001 0; omega
  | i + 1, h => by
    have ih := rsz_st fs hs l i (by omega)
    have hx : l[i]? = some (l[i]'(by omega)) := List.getElem?_eq_getElem (by omega)
    have hg : l.getD i (0, 0) = l[i]'(by omega) := by rw [List.getD_eq_getElem?_getD, hx]; rfl
    rw [st_succ fs ps hx, rsz, hg]
    generalize l[i]'(by omega) = x at *
    have hz := sizeOf_bd hs x
    unfold plan1
    rw [kst_st fs ps l i (by omega)]
    cases hk : (kst l i).getD i false
    · rw [if_pos rfl, if_neg (by simp), ih, Int.add_zero]
    · rw [if_neg (by simp), if_pos rfl]
      dsimp only
      rw [ih]
      split <;> omega
theorem planned_rsz (fs : List Bd.Cost) {ps : List Plan} (hs : ∀ p ∈ ps, 0 ≤ p.size ∧ p.size ≤ 20001) (l : List (Int × Int)) : (planned l fs ps).size = min 20001 (rsz ps l l.length) := by
  rw [← rsz_st fs hs l l.length (Nat.le_refl _)]
  unfold planned st
  rw [List.take_length]
end Bu
def sizes (ps : List Bu.Plan) : List Int := ps.map fun p => p.size
def SzI (w : World) (ps : List Bu.Plan) (l : List (Int × Int)) (n i : Value) (wr : World) : Prop := ∃ k : Nat, k ≤ l.length ∧ i = .int .i64 (k : Int) ∧ n = .int .i64 (Bu.rsz ps l k) ∧ Blk wr w.heap.size 4 (bools (Bu.kst l l.length)).toArray ∧ Below w.heap.size w wr
set_option maxRecDepth 100000 in
set_option maxHeartbeats 4000000 in
theorem rsize_any (l : List (Int × Int)) (ps : List Bu.Plan) (A Af : Option Addr) (c cf B : Nat) (w : World) (h : Reads w B 2 A l.length (pts l)) (hf : Reads w B 1 Af ps.length (ints (sizes ps))) (hB : B ≤ w.heap.size) (hl : l.length ≤ 100000) (hj : ∀ (i : Nat) x, l[i]? = some x → i + 1 + Bu.jump x ≤ l.length) (ha : ∀ x ∈ l, (x.1 = 35 ∨ x.1 = 36) → 0 ≤ x.2) (hc : ∀ x ∈ l, (x.1 = 37 ∨ x.1 = 38) → 0 ≤ x.2 ∧ x.2 < ps.length) (hs : ∀ p ∈ ps, 0 ≤ p.size ∧ p.size ≤ 20001) (hp : ps.length ≤ 100000) :
    Calls Tryz.prog 39 #[.slice A l.length c, .slice Af ps.length cf] w fun e w' => e = .returned (.int .i64 (min 20001 (Bu.rsz ps l l.length))) ∧ Below w.heap.size w w' := by
  have HL := Lib.hid h
  have HF := Lib.hid hf
  have HLN := Lib.hid hl
  have HC := Lib.hid hc
  have HS := Lib.hid hs
  have HPN := Lib.hid hp
  have HK := Lib.hid (rknown_any l A c B w h hB hl hj ha)
  clear h hf hl hj ha hc hs hp
  go_enter Tryz.func39, Tryz.ntmps39
  go_wp2_with fail
  refine HK.out.mono ?_
  rintro e w1 ⟨rfl, hb1, hw1⟩
  have HB1 := Lib.hid hb1
  have HW1 := Lib.hid hw1
  clear hb1 hw1 HK
  go_wp2_with fail
  go_loopw [5, 7] (fun n i wr => SzI w ps l n i wr) (fun _ i _ => l.length - (intOf i).toNat)
  case atStart => exact ⟨0, Nat.zero_le _, rfl, rfl, HB1.out, HW1.out⟩
  case round =>
    obtain ⟨k, hk, rfl, rfl, hb, hbw⟩ := hrel
    have HBW := Lib.hid hbw
    have HBB := Lib.hid hb
    have hwl := hb.lt
    have hrb := Bu.rsz_bd HS.out l k
    clear HB1 HW1
    by_cases hlt : k < l.length
    · obtain ⟨x, hx⟩ : ∃ x, l[k]? = some x := ⟨_, List.getElem?_eq_getElem hlt⟩
      have hxz := Bu.sizeOf_bd HS.out x
      have hs := Bu.rsz_succ ps hx
      have hkl := Bu.kst_len l l.length (Nat.le_refl _)
      have hca := HC.out x (List.mem_of_getElem? hx)
      obtain ⟨y0, y1⟩ := pts_at l k x hx
      obtain ⟨b, off, rfl, hbB, hcell⟩ := HL.out.2 (by omega)
      have hbb : b < w.heap.size := Nat.lt_of_lt_of_le hbB hB
      have hbr : b < wr.heap.size := Nat.lt_trans hbb hwl
      have d0 := (hbw.cell (p := ⟨b, off + k * 2, none⟩) hbb).trans (hcell _ _ y0)
      have d1 := (hbw.cell (p := ⟨b, off + (k * 2 + 1), none⟩) hbb).trans (hcell _ _ y1)
      rw [← Nat.add_assoc] at d1
      have hki : (k : Int) < l.length := by omega
      have hki1 : (k : Int) < (l.length : Int) + 1 := by omega
      have hwk : IntKind.i64.wrap ((k : Int) + 1) = (k : Int) + 1 := IntWalk.i64_in _ (by have := HLN.out; omega)
      obtain ⟨op, a⟩ := x
      simp only at hca d0 d1
      obtain ⟨K, hK⟩ : ∃ K, K = Bu.kst l l.length := ⟨_, rfl⟩
      rw [← hK] at hs hkl hb
      have HBB := Lib.hid hb
      have HKE := Lib.hid hK
      generalize hR : Bu.rsz ps l k = R at *
      have xk := blk_bool hb (i := k) (by omega)
      have HN := Lib.hid (HBB.out.alloc (.cells #[.int .i64 op, .int .i64 a] 96))
      have HNW := Lib.hid (HBW.out.alloc (Nat.le_of_lt hwl) (.cells #[.int .i64 op, .int .i64 a] 96))
      cases hkk : K.getD k false
      · rw [hkk] at xk
        rw [hkk, if_neg (by simp), Int.add_zero] at hs
        have HSS := Lib.hid hs
        clear hs hca y0 y1 hcell hK hkk hb hbw HBB HBW hR hx hxz
        go_wp2_with fail
        go_roundw
        case rel => exact ⟨k + 1, by omega, by go_num, by rw [HSS.out], by rw [← HKE.out]; exact HN.out, HNW.out⟩
        case measure => simp [intOf]; omega
      · rw [hkk] at xk
        rw [hkk, if_pos rfl] at hs
        unfold Bu.sizeOf at hs hxz
        simp only at hs hxz
        by_cases h4 : op = 4
        · subst h4
          rw [if_pos rfl] at hs
          have HSS := Lib.hid hs
          have hwn : IntKind.i64.wrap (R + 3) = R + 3 := IntWalk.i64_in _ (by have := HLN.out; omega)
          clear hs hca y0 y1 hcell hkk hb hbw HBB HBW hR hx hxz hK
          go_wp2_with fail
          go_roundw
          case rel => exact ⟨k + 1, by omega, by go_num, by rw [HSS.out], by rw [← HKE.out]; exact HN.out, HNW.out⟩
          case measure => simp [intOf]; omega
        · rw [if_neg h4] at hs hxz
          have n4 : (op == 4) = false := by simpa using h4
          by_cases h37 : op = 37
          · subst h37
            rw [if_pos rfl] at hs hxz
            obtain ⟨ca0, ca1⟩ := hca (.inl rfl)
            obtain ⟨j, rfl⟩ : ∃ j : Nat, a = (j : Int) := ⟨a.toNat, by omega⟩
            obtain ⟨p, hp⟩ : ∃ p, ps[j]? = some p := ⟨_, List.getElem?_eq_getElem (by omega)⟩
            have hpl : Bu.pl ps (j : Int) = p := by unfold Bu.pl; rw [Int.toNat_natCast, List.getD_eq_getElem?_getD, hp]; rfl
            rw [hpl] at hs hxz
            obtain ⟨bf, of', rfl, hbF, hcf⟩ := HF.out.2 (by omega)
            have f0 := (hbw.cell (p := ⟨bf, of' + j, none⟩) (Nat.lt_of_lt_of_le hbF hB)).trans (hcf j _ (ints_get (l := sizes ps) (i := j) (v := p.size) (by unfold sizes; rw [List.getElem?_map, hp]; rfl)))
            have hbf : bf < wr.heap.size := Nat.lt_trans (Nat.lt_of_lt_of_le hbF hB) hwl
            have HSS := Lib.hid hs
            generalize p.size = S at *
            have hwn : IntKind.i64.wrap (R + S) = R + S := IntWalk.i64_in _ (by have := HLN.out; omega)
            clear hs hca y0 y1 hcell hkk hb hbw HBB HBW hR hx hxz hK hpl hp hcf h4
            go_wp2_with fail
            go_roundw
            case rel => exact ⟨k + 1, by omega, by go_num, by rw [HSS.out], by rw [← HKE.out]; exact HN.out, HNW.out⟩
            case measure => simp [intOf]; omega
          · rw [if_neg h37] at hs hxz
            have n37 : (op == 37) = false := by simpa using h37
            by_cases h38 : op = 38
            · subst h38
              rw [if_pos rfl] at hs hxz
              obtain ⟨ca0, ca1⟩ := hca (.inr rfl)
              obtain ⟨j, rfl⟩ : ∃ j : Nat, a = (j : Int) := ⟨a.toNat, by omega⟩
              obtain ⟨p, hp⟩ : ∃ p, ps[j]? = some p := ⟨_, List.getElem?_eq_getElem (by omega)⟩
              have hpl : Bu.pl ps (j : Int) = p := by unfold Bu.pl; rw [Int.toNat_natCast, List.getD_eq_getElem?_getD, hp]; rfl
              rw [hpl] at hs hxz
              have hpb := HS.out p (List.mem_of_getElem? hp)
              obtain ⟨bf, of', rfl, hbF, hcf⟩ := HF.out.2 (by omega)
              have f0 := (hbw.cell (p := ⟨bf, of' + j, none⟩) (Nat.lt_of_lt_of_le hbF hB)).trans (hcf j _ (ints_get (l := sizes ps) (i := j) (v := p.size) (by unfold sizes; rw [List.getElem?_map, hp]; rfl)))
              have hbf : bf < wr.heap.size := Nat.lt_trans (Nat.lt_of_lt_of_le hbF hB) hwl
              have HSS := Lib.hid hs
              generalize p.size = S at *
              have hwn : IntKind.i64.wrap (R + 1) = R + 1 := IntWalk.i64_in _ (by have := HLN.out; omega)
              have hwm : IntKind.i64.wrap (1 + S) = 1 + S := IntWalk.i64_in _ (by omega)
              have hwo : IntKind.i64.wrap (16 * (1 + S)) = 16 * (1 + S) := IntWalk.i64_in _ (by omega)
              have hwp : IntKind.i64.wrap (R + 1 + 16 * (1 + S)) = R + 1 + 16 * (1 + S) := IntWalk.i64_in _ (by have := HLN.out; omega)
              clear hs hca y0 y1 hcell hkk hb hbw HBB HBW hR hx hxz hK hpl hp hcf h4 h37 hpb
              go_wp2_with fail
              go_roundw
              case rel => exact ⟨k + 1, by omega, by go_num, by rw [HSS.out, Int.add_assoc], by rw [← HKE.out]; exact HN.out, HNW.out⟩
              case measure => simp [intOf]; omega
            · rw [if_neg h38] at hs hxz
              have n38 : (op == 38) = false := by simpa using h38
              have HSS := Lib.hid hs
              have hwn : IntKind.i64.wrap (R + 1) = R + 1 := IntWalk.i64_in _ (by have := HLN.out; omega)
              clear hs hca y0 y1 hcell hkk hb hbw HBB HBW hR hx hxz hK h4 h37 h38
              go_wp2_with fail
              go_roundw
              case rel => exact ⟨k + 1, by omega, by go_num, by rw [HSS.out], by rw [← HKE.out]; exact HN.out, HNW.out⟩
              case measure => simp [intOf]; omega
    · obtain rfl : k = l.length := by omega
      clear HBB HL HF HC hb hbw
      by_cases hgt : (20001 : Int) < Bu.rsz ps l l.length
      · have hm : min 20001 (Bu.rsz ps l l.length) = 20001 := by omega
        go_wp2_with fail
        go_ret
        exact ⟨by first | exact ret_i64 hm.symm | rfl, HBW.out⟩
      · have hm : min 20001 (Bu.rsz ps l l.length) = Bu.rsz ps l l.length := by omega
        go_wp2_with fail
        go_ret
        exact ⟨by first | exact ret_i64 hm.symm | rfl, HBW.out⟩
end Go.Proofs.YtnhebmgibiomnaaGreat
