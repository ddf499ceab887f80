/- Parts of the proof, joined: RefC. -/
import Derived.Test.YtnhebmgibiomnaaGreatPc37
import Derived.Test.YtnhebmgibiomnaaGreatPc38
set_option linter.unusedVariables false
set_option linter.unusedSimpArgs false
namespace Go.Proofs.YtnhebmgibiomnaaGreat
open Go.RowKit
theorem madeCells_one (z : Value) (n : Nat) : madeCells #[z] n = (List.replicate n z).toArray := by
  unfold madeCells
  apply Array.toList_inj.1
  simp only [Array.toList_map, Array.toList_range]
  rw [List.eq_replicate_iff]
  exact ⟨by simp, by intro b hb; simp at hb; obtain ⟨a, ha, rfl⟩ := hb; rw [show a % 1 = 0 by omega]; rfl⟩
theorem make_plain {P : Program} (t e : TypeId) (z : Value) (bytes : Nat) (ht : P.underlying t = some (.slice e)) (hi : (P.info? e).map (fun i => (i.zero, i.size, i.bytes)) = some (some z, 1, bytes)) (hz : z.cells = #[z])
    (n : Nat) (hbytes : bytes * n ≤ 281474976710656) (h63 : n ≤ 9223372036854775807) (w : World) :
    (Instr.makeSlice t (.int .i64 (n : Int)) (.int .i64 (n : Int))).run P w = .ok (.slice (some ⟨w.heap.size, 0, none⟩) n n) (w.alloc (.cells (List.replicate n z).toArray e)) := by
  obtain ⟨i, hi, hz0, hz1, hz2⟩ := info_parts hi
  have := mkRowN (P := P) t e i z ht hi hz0 .i64 .i64 n n (Nat.le_refl _) (by rw [hz2]; exact hbytes) h63 w
  rw [hz1, Nat.mul_one, hz, madeCells_one] at this
  exact this
theorem bool_info : (Tryz.prog.info? 4).map (fun i => (i.zero, i.size, i.bytes)) = some (some (.bool false), 1, 1) := by kernel_rfl
theorem int_info : (Tryz.prog.info? 3).map (fun i => (i.zero, i.size, i.bytes)) = some (some (.int .i64 0), 1, 8) := by kernel_rfl
structure Arr (w : World) (g : Nat) (pl : List Bd.Place) : Prop where
  k : Blk w g 4 (pl.map fun p => Value.bool p.known).toArray
  h : Blk w (g + 1) 3 (pl.map fun p => Value.int .i64 p.high).toArray
  s : Blk w (g + 1 + 1) 3 (pl.map fun p => Value.int .i64 p.steps).toArray
theorem Arr.below {w w' : World} {g : Nat} {pl : List Bd.Place} (h : Arr w g pl) {B : Nat} (hb : Below B w w') (hB : g + 1 + 1 < B) : Arr w' g pl := ⟨h.k.below hb (by omega), h.h.below hb (by omega), h.s.below hb (by omega)⟩
theorem pat_get {pl : List Bd.Place} {t : Nat} (h : t < pl.length) : pl[t]? = some (Bd.pat pl t) := by
  unfold Bd.pat; rw [List.getD_eq_getElem?_getD]; simp [h]
theorem Arr.kat {w : World} {g : Nat} {pl : List Bd.Place} (h : Arr w g pl) {t : Nat} (ht : t < pl.length) : w.cell? ⟨g, t, none⟩ = some (.bool (Bd.pat pl t).known) := by
  rw [h.k.cell]; simp only [List.getElem?_toArray, List.getElem?_map, pat_get ht, Option.map_some]
theorem Arr.hat {w : World} {g : Nat} {pl : List Bd.Place} (h : Arr w g pl) {t : Nat} (ht : t < pl.length) : w.cell? ⟨g + 1, t, none⟩ = some (.int .i64 (Bd.pat pl t).high) := by
  rw [h.h.cell]; simp only [List.getElem?_toArray, List.getElem?_map, pat_get ht, Option.map_some]
theorem Arr.sat {w : World} {g : Nat} {pl : List Bd.Place} (h : Arr w g pl) {t : Nat} (ht : t < pl.length) : w.cell? ⟨g + 1 + 1, t, none⟩ = some (.int .i64 (Bd.pat pl t).steps) := by
  rw [h.s.cell]; simp only [List.getElem?_toArray, List.getElem?_map, pat_get ht, Option.map_some]
theorem Arr.lt {w : World} {g : Nat} {pl : List Bd.Place} (h : Arr w g pl) : g + 1 + 1 < w.heap.size := h.s.lt
theorem arr_marks {w : World} {G : Nat} {pl : List Bd.Place} (h : Arr w G pl) (ev : Bd.Eff) (T1 T2 : Nat) (q1 q2 : Int) (e1 : q1 = max (Bd.pat pl T1).steps ev.steps) (e2 : q2 = max (Bd.pat (Bd.mark ev pl T1) T2).steps ev.steps) :
    Arr ((((((w.setCell ⟨G, T1, none⟩ (.bool true)).setCell ⟨G, T2, none⟩ (.bool true)).setCell ⟨G + 1, T1, none⟩ (.int .i64 ev.high)).setCell ⟨G + 1, T2, none⟩ (.int .i64 ev.high)).setCell ⟨G + 1 + 1, T1, none⟩ (.int .i64 q1)).setCell ⟨G + 1 + 1, T2, none⟩ (.int .i64 q2)) G (Bd.mark ev (Bd.mark ev pl T1) T2) := by
  subst e1 e2
  refine ⟨?_, ?_, ?_⟩
  · rw [Bd.mark_map, Bd.mark_map]
    have := ((((((h.k.set_ T1 (.bool true)).set_ T2 (.bool true)).far (p := ⟨G + 1, T1, none⟩) (by simp) (.int .i64 ev.high)).far (p := ⟨G + 1, T2, none⟩) (by simp) (.int .i64 ev.high)).far (p := ⟨G + 1 + 1, T1, none⟩) (by simp; omega) (.int .i64 (max (Bd.pat pl T1).steps ev.steps))).far (p := ⟨G + 1 + 1, T2, none⟩) (by simp; omega) (.int .i64 (max (Bd.pat (Bd.mark ev pl T1) T2).steps ev.steps)))
    simpa using this
  · rw [Bd.mark_map, Bd.mark_map]
    have := ((((((h.h.far (p := ⟨G, T1, none⟩) (by simp) (.bool true)).far (p := ⟨G, T2, none⟩) (by simp) (.bool true)).set_ T1 (.int .i64 ev.high)).set_ T2 (.int .i64 ev.high)).far (p := ⟨G + 1 + 1, T1, none⟩) (by simp) (.int .i64 (max (Bd.pat pl T1).steps ev.steps))).far (p := ⟨G + 1 + 1, T2, none⟩) (by simp) (.int .i64 (max (Bd.pat (Bd.mark ev pl T1) T2).steps ev.steps)))
    simpa using this
  · rw [Bd.mark_map, Bd.mark_map]
    have := ((((((h.s.far (p := ⟨G, T1, none⟩) (by simp; omega) (.bool true)).far (p := ⟨G, T2, none⟩) (by simp; omega) (.bool true)).far (p := ⟨G + 1, T1, none⟩) (by simp) (.int .i64 ev.high)).far (p := ⟨G + 1, T2, none⟩) (by simp) (.int .i64 ev.high)).set_ T1 (.int .i64 (max (Bd.pat pl T1).steps ev.steps))).set_ T2 (.int .i64 (max (Bd.pat (Bd.mark ev pl T1) T2).steps ev.steps)))
    simpa using this
def RInv (w : World) (G n : Nat) (l : List (Int × Int)) (fs : List Bd.Cost) (nd pk i : Value) (wr : World) : Prop :=
  ∃ (k : Nat) (st : Bd.St), k ≤ n ∧ i = .int .i64 k ∧ nd = .int .i64 st.need ∧ pk = .int .i64 st.peak ∧ Arr wr G st.pl ∧ Bd.Ok n st ∧ Bd.code l fs = Bd.rest n fs (l.drop k) k st ∧
    Below (w.heap.size + 1) (w.alloc (.cells #[.int .i64 0, .int .i64 0, .int .i64 0, .int .i64 0] 78)) wr
def costT (w : World) : World := w.alloc (.cells #[.int .i64 0, .int .i64 0, .int .i64 0, .int .i64 0] 78)
set_option maxHeartbeats 8000000 in
set_option maxRecDepth 100000 in
theorem rcode_any (Ac Af : Option Addr) (n cc m cf B : Nat) (fs : List Bd.Cost) (l : List (Int × Int)) (w : World) (hF : Reads w B 4 Af m (costCells fs)) (hB : B ≤ w.heap.size) (hm : m = fs.length) (hm1 : m ≤ 1000000000000) (hn : n ≤ 1000000000000) (hnl : n = l.length) (hl : Reads w B 2 Ac n (insCells l)) :
    Calls Tryz.prog 68 #[.slice Ac n cc, .slice Af m cf] w (CodePost w (Bd.code l fs)) := by
  have HFR := Lib.hid hF
  have HL := Lib.hid hl
  have HM := Lib.hid hm
  have HNL := Lib.hid hnl
  have mk1 := make_plain (P := Tryz.prog) 142 4 _ 1 Tryz.underlying142 bool_info rfl (n + 1) (by omega) (by omega)
  have mk2 := make_plain (P := Tryz.prog) 22 3 _ 8 Tryz.underlying22 int_info rfl (n + 1) (by omega) (by omega)
  have ec : ((n + 1 : Nat) : Int) = (n : Int) + 1 := by omega
  rw [ec] at mk1 mk2
  have MK1 := Lib.hid mk1
  have MK2 := Lib.hid mk2
  clear hF hl hm hnl mk1 mk2 ec
  go_enter Tryz.func68, Tryz.ntmps68
  go_wp2_with fail
  go_loopw [7] (fun i wr => ∃ k : Nat, k ≤ m ∧ i = .int .i64 k ∧ (∀ c ∈ fs.take k, Bd.mayBe c = true) ∧ Below (w.heap.size + 1) (costT w) wr) (fun i _ => m - (intOf i).toNat)
  case atStart => exact ⟨0, by omega, rfl, by simp, Below.refl _ _⟩
  case round =>
    obtain ⟨k, hk, rfl, hall, hb⟩ := hrel
    have HALL := Lib.hid hall
    clear hall
    have hsz := hb.size
    simp [costT] at hsz
    by_cases hlt : k < m
    · have hFr : Reads wr B 4 Af m (costCells fs) := (HFR.out.alloc hB _).below hb (by omega)
      obtain ⟨c, hc⟩ : ∃ c, fs[k]? = some c := ⟨_, List.getElem?_eq_getElem (by have := HM.out; omega)⟩
      obtain ⟨b, off, rfl, hbB, hcells⟩ := hFr.2 (by omega)
      obtain ⟨g0, g1, g2, g3⟩ := costCells_at fs k c hc
      have d0 := hcells _ _ g0
      have d1 := hcells _ _ g1
      have d2 := hcells _ _ g2
      have d3 := hcells _ _ g3
      rw [← Nat.add_assoc] at d1 d2 d3
      have HC := Lib.hid hc
      clear hcells g0 g1 g2 g3 hc hFr
      obtain ⟨cn, cd, cp, cs⟩ := c
      simp only at d0 d1 d2 d3
      go_wp2_with fail
      refine (rright19_any ⟨cn, cd, cp, cs⟩ _).mono ?_
      rintro e w1 ⟨rfl, hb1⟩
      have hb2 : Below (w.heap.size + 1) (costT w) w1 := hb.trans (hb1.mono (by omega))
      cases hmb : Bd.mayBe ⟨cn, cd, cp, cs⟩ with
      | true =>
        have HMB := Lib.hid hmb
        clear hmb
        clear d0 d1 d2 d3 hb1
        go_wp2
        go_roundw
        case rel => exact ⟨k + 1, by omega, by go_num, by
          intro c' hc'
          rw [List.take_add_one, HC.out] at hc'
          rcases List.mem_append.1 hc' with h | h
          · exact HALL.out c' h
          · simp at h; subst h; exact HMB.out, hb2⟩
        case measure => simp [intOf]; omega
      | false =>
        have hcode : Bd.code l fs = (⟨0, 0, 0, 0⟩, 0, 1) := by
          unfold Bd.code
          rw [if_neg]
          intro hh
          have := List.all_eq_true.1 hh _ (List.mem_of_getElem? HC.out)
          rw [hmb] at this
          cases this
        have HCODE := Lib.hid hcode
        have hk1 : Blk w1 w.heap.size 78 #[.int .i64 0, .int .i64 0, .int .i64 0, .int .i64 0] := (Blk.new w _ _).below hb2 (by omega)
        have q := hk1.cell
        have z := hk1.frozen
        have hlt2 := hk1.lt
        clear hmb hcode d0 d1 d2 d3 hb1 hk1
        go_wp2
        refine bodyPost_ret (v := .tuple #[.agg #[.int .i64 0, .int .i64 0, .int .i64 0, .int .i64 0], .int .i64 0, .int .i64 1]) (by simp [results, Tryz.results68, go_sem, q]) rfl ⟨by rw [HCODE.out]; rfl, ?_⟩
        have hb3 : Below w.heap.size w w1 := ((Below.refl _ _).alloc (Nat.le_refl _) _).trans (hb2.mono (by omega))
        exact ((((hb3.setCell (Nat.le_refl _) _).setCell (Nat.le_refl _) _).setCell (Nat.le_refl _) _).setCell (Nat.le_refl _) _)
    · obtain ⟨wo, rfl⟩ : ∃ wo : World, wo = wr := ⟨_, rfl⟩
      have hkm : k = m := by omega
      have hmay : fs.all Bd.mayBe = true := by
        rw [List.all_eq_true]
        intro c hc
        have := HALL.out c
        rw [hkm, HM.out, List.take_length] at this
        exact this hc
      have hcode : Bd.code l fs = Bd.rest n fs (l.drop 0) ((0 : Nat) : Int) (Bd.start n) := by unfold Bd.code; rw [if_pos hmay, HNL.out]; rfl
      have HMAY := Lib.hid hmay
      have HCODE := Lib.hid hcode
      have HKM := Lib.hid hkm
      have mk1 := MK1.out
      have mk2 := MK2.out
      obtain ⟨mc, hmc⟩ : ∃ mc, mc = (List.replicate (n + 1) (Value.bool false)).toArray := ⟨_, rfl⟩
      obtain ⟨mi, hmi⟩ : ∃ mi, mi = (List.replicate (n + 1) (Value.int .i64 0)).toArray := ⟨_, rfl⟩
      rw [← hmc] at mk1
      rw [← hmi] at mk2
      have m0 : mc[0]? = some (.bool false) := by rw [hmc]; simp [List.replicate_succ]
      have HMC := Lib.hid hmc
      have HMI := Lib.hid hmi
      clear hmay hcode hkm HALL hmc hmi
      go_wp2_with fail
      obtain ⟨Y, hY⟩ : ∃ Y, Y = ((wo.alloc (.cells (mc.setIfInBounds 0 (.bool true)) 4)).alloc (.cells mi 3)).alloc (.cells mi 3) := ⟨_, rfl⟩
      have hst : Arr Y wo.heap.size (Bd.start n).pl := by
        have e1 : mc.setIfInBounds 0 (.bool true) = ((Bd.start n).pl.map fun p => Value.bool p.known).toArray := by rw [HMC.out]; simp [List.replicate_succ, Bd.start]
        have e2 : mi = ((Bd.start n).pl.map fun p => Value.int .i64 p.high).toArray := by rw [HMI.out]; simp [List.replicate_succ, Bd.start]
        have e3 : mi = ((Bd.start n).pl.map fun p => Value.int .i64 p.steps).toArray := by rw [HMI.out]; simp [List.replicate_succ, Bd.start]
        refine ⟨?_, ?_, ?_⟩
        · rw [← e1, hY]; exact ((Blk.new _ _ _).alloc _).alloc _
        · rw [← e2, hY]; exact (Blk.new_at _ _ _ (by simp)).alloc _
        · rw [← e3, hY]; exact Blk.new_at _ _ _ (by simp)
      have hbY : Below (w.heap.size + 1) (costT w) Y := by rw [hY]; exact ((hb.alloc (by omega) _).alloc (by simp; omega) _).alloc (by simp; omega) _
      have hlen0 : (Bd.start n).pl.length = n + 1 := by simp [Bd.start]
      rw [← hY]
      have hGw : w.heap.size < wo.heap.size := by omega
      have HBW := Lib.hid (HL.out.alloc hB (.cells #[.int .i64 0, .int .i64 0, .int .i64 0, .int .i64 0] 78))
      have HFW := Lib.hid (HFR.out.alloc hB (.cells #[.int .i64 0, .int .i64 0, .int .i64 0, .int .i64 0] 78))
      clear hY mk1 mk2 m0 MK1 MK2 hb hsz
      have h0 : RInv w wo.heap.size n l fs (.int .i64 0) (.int .i64 0) (.int .i64 0) Y := ⟨0, _, by omega, rfl, rfl, rfl, hst, Bd.start_ok n, HCODE.out, hbY⟩
      clear hst hbY hlen0 HCODE HMC HMI
      go_loopw [11, 12, 13] (fun nd pk i wr => RInv w wo.heap.size n l fs nd pk i wr) (fun _ _ i _ => n - (intOf i).toNat)
      case atStart => exact h0
      case round =>
        clear h0
        obtain ⟨j, st, hj, rfl, rfl, rfl, harr, hok, hrest, hb⟩ := hrel
        have hsz := hb.size
        have hlt3 := harr.lt
        simp at hsz
        have HARR := Lib.hid harr
        have HOK := Lib.hid hok
        have HREST := Lib.hid hrest
        clear harr hok hrest
        have hL := HBW.out.below hb (by omega)
        have hF := HFW.out.below hb (by omega)
        have HF := Lib.hid hF
        clear hF
        by_cases hjn : j < n
        · obtain ⟨x, hx⟩ : ∃ x, l[j]? = some x := ⟨_, List.getElem?_eq_getElem (by have := HNL.out; omega)⟩
          obtain ⟨b, off, rfl, hbB, hcells⟩ := hL.2 (by omega)
          obtain ⟨g0, g1⟩ := insCells_at l j x hx
          have d0 := hcells _ _ g0
          have d1 := hcells _ _ g1
          rw [← Nat.add_assoc] at d1
          have hdrop : l.drop j = x :: l.drop (j + 1) := by
            have hjl : j < l.length := by have := HNL.out; omega
            rw [List.drop_eq_getElem_cons hjl]
            rw [List.getElem?_eq_getElem hjl] at hx
            injection hx with hx
            rw [hx]
          have HDROP := Lib.hid hdrop
          clear hcells g0 g1 hx hL hdrop
          obtain ⟨op, a⟩ := x
          simp only at d0 d1
          go_wp2_with fail
          refine (rwrong19_any op a _ Af m cf _ hm1 n j rfl).mono ?_
          rintro e w1 ⟨rfl, hb1⟩
          have hbx : Blk w1 wr.heap.size 96 #[.int .i64 op, .int .i64 a] := (Blk.new wr _ _).below hb1 (by simp)
          have hb2 : Below wr.heap.size wr w1 := ((Below.refl _ _).alloc (Nat.le_refl _) _).trans (hb1.mono (by simp))
          have hsz1 : wr.heap.size < w1.heap.size := by have := hb1.size; simp at this; omega
          have HBX := Lib.hid hbx
          clear d0 d1 hb1 hbx
          by_cases hal : Bd.always n m j (op, a) = 0
          · rw [hal]
            have hkj := (HARR.out.below hb2 (by omega)).kat (t := j) (by rw [HOK.out.len]; omega)
            cases hkn : (Bd.pat st.pl j).known with
            | false =>
              rw [hkn] at hkj
              have hrs := HREST.out
              have hlook : Bd.look n fs st j (op, a) = (0, st) := by unfold Bd.look; rw [← HM.out, hal, if_neg (by simp), if_pos hkn]
              rw [HDROP.out, Bd.rest, hlook] at hrs
              simp only [ne_eq, not_true_eq_false, ↓reduceIte] at hrs
              have HRS := Lib.hid hrs
              have hbw : Below (w.heap.size + 1) (w.alloc (.cells #[.int .i64 0, .int .i64 0, .int .i64 0, .int .i64 0] 78)) w1 := hb.trans (hb2.mono (by omega))
              clear hrs hlook hal hkn HREST HDROP HBX
              go_wp2_with fail
              go_roundw
              case rel => exact ⟨j + 1, st, by omega, by go_num, rfl, rfl, HARR.out.below hb2 (by omega), HOK.out, by rw [HRS.out, show ((j + 1 : Nat) : Int) = (j : Int) + 1 by omega], hbw⟩
              case measure => simp [intOf]; omega
            | true =>
              rw [hkn] at hkj
              have hhj := (HARR.out.below hb2 (by omega)).hat (t := j) (by rw [HOK.out.len]; omega)
              have hsj := (HARR.out.below hb2 (by omega)).sat (t := j) (by rw [HOK.out.len]; omega)
              have x0 := HBX.out.cell 0
              have x1 := HBX.out.cell 1
              simp only [List.getElem?_toArray, List.getElem?_cons_zero, List.getElem?_cons_succ] at x0 x1
              have HAL := Lib.hid hal
              have HKN := Lib.hid hkn
              clear hal hkn
              go_wp2_with fail
              have i1 : (0 : Int) ≤ (j : Int) := by omega
              have i2 : (j : Int) < (n : Int) + 1 := by omega
              have i3 : j < n + 1 := by omega
              have hcb : Bd.calls op = true → 0 ≤ a ∧ a < fs.length := fun h => by have := Bd.calls_bd (x := (op, a)) HAL.out h; rw [HM.out] at this; exact this
              have hpo := Bd.pat_bd HOK.out j
              have hF1 := HF.out.below hb2 (by omega)
              have heb := Bd.effect_bd HMAY.out hpo (op, a)
              obtain ⟨ev, hev⟩ : ∃ ev, ev = Bd.effect fs (Bd.pat st.pl j) (op, a) := ⟨_, rfl⟩
              have hso : (Bd.pat st.pl j).steps + stepsOf fs op a = ev.steps := by
                rw [hev]
                cases hcl : Bd.calls op with
                | false => obtain ⟨q1, q2⟩ := calls_no hcl; simp at q1 q2; rw [effect_none hcl]; simp [stepsOf, q1, q2]
                | true => rw [(effect_calls hcl).2.2.2]
              have HN1 := Lib.hid (fun (W : World) (hbW : Below w1.heap.size w1 W) => need_any Af cf B fs (Bd.pat st.pl j) op a W (by rw [← HM.out]; exact hF1.below hbW (by omega)) (by have := hbW.size; omega) HMAY.out hpo hcb)
              have HN2 := Lib.hid (fun (W : World) (hbW : Below w1.heap.size w1 W) => peak_any Af cf B fs (Bd.pat st.pl j) op a W (by rw [← HM.out]; exact hF1.below hbW (by omega)) (by have := hbW.size; omega) HMAY.out hpo hcb)
              have HN3 := Lib.hid (fun (W : World) (hbW : Below w1.heap.size w1 W) => height_any Af cf B fs (Bd.pat st.pl j) op a W (by rw [← HM.out]; exact hF1.below hbW (by omega)) (by have := hbW.size; omega) HMAY.out hpo hcb)
              have HN4 := Lib.hid (fun (W : World) (hbW : Below w1.heap.size w1 W) => steps_any Af cf B fs op a W (by rw [← HM.out]; exact hF1.below hbW (by omega)) (by have := hbW.size; omega) HMAY.out hcb)
              have HFN := Lib.hid (fun (W : World) (hbW : Below w1.heap.size w1 W) (h : Bd.calls op = true) => fn_cells (w := W) (by rw [← HM.out]; exact hF1.below hbW (by omega)) (hcb h).1 (hcb h).2)
              have HFB := Lib.hid (Bd.fn_bd HMAY.out a)
              rw [← hev, ← HM.out] at HN1 HN2 HN3
              rw [← HM.out] at HN4
              rw [← hev] at heb
              unfold Bd.okP at hpo
              have HEV := Lib.hid hev
              obtain ⟨ph, hph⟩ : ∃ ph, ph = (Bd.pat st.pl j).high := ⟨_, rfl⟩
              obtain ⟨ps, hps⟩ : ∃ ps, ps = (Bd.pat st.pl j).steps := ⟨_, rfl⟩
              obtain ⟨so, hso2⟩ : ∃ so, so = stepsOf fs op a := ⟨_, rfl⟩
              rw [← hph] at hpo HN1 HN2 HN3 hhj
              rw [← hps] at hpo hsj hso
              rw [← hso2] at HN4 hso
              have HW : Hid (∀ W, Below w1.heap.size w1 W → W.cell? ⟨wr.heap.size, 0, none⟩ = some (.int .i64 op) ∧ W.cell? ⟨wr.heap.size, 1, none⟩ = some (.int .i64 a) ∧ W.cell? ⟨wo.heap.size + 1, j, none⟩ = some (.int .i64 ph) ∧ W.cell? ⟨wo.heap.size + 1 + 1, j, none⟩ = some (.int .i64 ps)) := by
                intro W hbW
                refine ⟨?_, ?_, ?_, ?_⟩
                · rw [hbW.cell (by exact hsz1)]; exact x0
                · rw [hbW.cell (by exact hsz1)]; exact x1
                · rw [hbW.cell (by simp; omega)]; exact hhj
                · rw [hbW.cell (by simp; omega)]; exact hsj
              have swr : IntKind.i64.wrap (ps + so) = ev.steps := by rw [hso]; exact IntWalk.i64_in _ (by omega)
              have hb_w1 : Below w1.heap.size w1 w1 := Below.refl _ _
              have HPH := Lib.hid hph
              have HPS := Lib.hid hps
              clear hcb hF1 hev hso hph hps hso2
              have hmx := max_ifb
              go_region_held3 (fun w' => w'.cell? ⟨wr.heap.size, 0, none⟩ = some (.int .i64 op) ∧ w'.cell? ⟨wr.heap.size, 1, none⟩ = some (.int .i64 a) ∧ w'.cell? ⟨wo.heap.size + 1, j, none⟩ = some (.int .i64 ph) ∧ w'.cell? ⟨wo.heap.size + 1 + 1, j, none⟩ = some (.int .i64 ps)) (go_keep)
                (first | (go_at_call 93; refine (HN1.out _ (by exact (hb_w1).drew)).mono ?_; rintro e w2 ⟨rfl, hbn⟩; have hb_w2 : Below w1.heap.size w1 w2 := (hb_w1).drew.trans (hbn.mono (hb_w1).size); have hbz := (hb_w2).size; clear x0 x1 hhj hsj hbn; obtain ⟨x0, x1, hhj, hsj⟩ := HW.out _ hb_w2))
              go_wp2_with fail
              go_region_held3 (fun w' => w'.cell? ⟨wr.heap.size, 0, none⟩ = some (.int .i64 op) ∧ w'.cell? ⟨wr.heap.size, 1, none⟩ = some (.int .i64 a) ∧ w'.cell? ⟨wo.heap.size + 1, j, none⟩ = some (.int .i64 ph) ∧ w'.cell? ⟨wo.heap.size + 1 + 1, j, none⟩ = some (.int .i64 ps)) (go_keep)
                (first | (go_at_call 94; refine (HN2.out _ (by exact (hb_w2).drew)).mono ?_; rintro e w3 ⟨rfl, hbn⟩; have hb_w3 : Below w1.heap.size w1 w3 := (hb_w2).drew.trans (hbn.mono (hb_w2).size); have hbz := (hb_w3).size; clear x0 x1 hhj hsj hbn; obtain ⟨x0, x1, hhj, hsj⟩ := HW.out _ hb_w3))
              go_wp2_with fail
              go_region_held3 (fun w' => w'.cell? ⟨wr.heap.size, 0, none⟩ = some (.int .i64 op) ∧ w'.cell? ⟨wr.heap.size, 1, none⟩ = some (.int .i64 a) ∧ w'.cell? ⟨wo.heap.size + 1, j, none⟩ = some (.int .i64 ph) ∧ w'.cell? ⟨wo.heap.size + 1 + 1, j, none⟩ = some (.int .i64 ps)) (go_keep)
                (first | (go_at_call 95; refine (HN3.out _ (by exact (hb_w3).drew)).mono ?_; rintro e w4 ⟨rfl, hbn⟩; have hb_w4 : Below w1.heap.size w1 w4 := (hb_w3).drew.trans (hbn.mono (hb_w3).size); have hbz := (hb_w4).size; clear x0 x1 hhj hsj hbn; obtain ⟨x0, x1, hhj, hsj⟩ := HW.out _ hb_w4))
              go_wp2_with fail
              go_region_held3 (fun w' => w'.cell? ⟨wr.heap.size, 0, none⟩ = some (.int .i64 op) ∧ w'.cell? ⟨wr.heap.size, 1, none⟩ = some (.int .i64 a) ∧ w'.cell? ⟨wo.heap.size + 1, j, none⟩ = some (.int .i64 ph) ∧ w'.cell? ⟨wo.heap.size + 1 + 1, j, none⟩ = some (.int .i64 ps)) (go_keep)
                (first | (go_at_call 96; refine (HN4.out _ (by exact (hb_w4).drew)).mono ?_; rintro e w5 ⟨rfl, hbn⟩; have hb_w5 : Below w1.heap.size w1 w5 := (hb_w4).drew.trans (hbn.mono (hb_w4).size); have hbz := (hb_w5).size; clear x0 x1 hhj hsj hbn; obtain ⟨x0, x1, hhj, hsj⟩ := HW.out _ hb_w5))
              have hb_ := hb_w5
              have hz5 := hb_.size
              clear hb_w1 hb_w2 hb_w3 hb_w4 hb_w5 HN1 HN2 HN3 HN4 HW swr hbz hkj hhj hsj
              have hwb := Bd.ways_bd (x := (op, a)) HAL.out i1 (by omega)
              obtain ⟨T1, hT1⟩ : ∃ T1 : Nat, Bd.one j (op, a) = T1 := ⟨(Bd.one j (op, a)).toNat, by omega⟩
              obtain ⟨T2, hT2⟩ : ∃ T2 : Nat, Bd.two j (op, a) = T2 := ⟨(Bd.two j (op, a)).toNat, by omega⟩
              rw [hT1, hT2] at hwb
              have u1 : Bd.one j (op, a) = if op = 35 then (j : Int) + 1 + a else (j : Int) + 1 := rfl
              have u2 : Bd.two j (op, a) = if op = 35 ∨ op = 36 then (j : Int) + 1 + a else (j : Int) + 1 := rfl
              rw [hT1] at u1
              rw [hT2] at u2
              have U1 := Lib.hid u1
              have U2 := Lib.hid u2
              have HT1 := Lib.hid hT1
              have HT2 := Lib.hid hT2
              clear u1 u2 hT1 hT2
              go_upto_if 115 with (fail)
              go_cut [18, 19] (fun s18 s19 wx => s18 = .int .i64 T1 ∧ s19 = .int .i64 T1 ∧ wx = w5)
              case first =>
                as_aux_lemma =>
                  by_cases h35 : op = 35
                  · have u1 := U1.out
                    rw [if_pos h35] at u1
                    subst h35
                    have ha : (j : Int) + 1 + a ≤ n ∧ 0 ≤ (j : Int) + 1 + a := by omega
                    have UU := Lib.hid u1
                    clear u1
                    go_wp2_with fail
                    go_meet
                    case rel => exact ⟨by rw [UU.out], by rw [UU.out], rfl⟩
                  · have u1 := U1.out
                    rw [if_neg h35] at u1
                    have hb35 : (op == 35) = false := by simpa using h35
                    have UU := Lib.hid u1
                    clear u1 h35
                    go_wp2_with fail
                    go_meet
                    case rel => exact ⟨by rw [UU.out], by rw [UU.out], rfl⟩
              case rest =>
                obtain ⟨rfl, rfl, rfl⟩ := hcut
                go_upto_if 124 with (fail)
                go_cut [19] (fun s19 wx => s19 = .int .i64 T2 ∧ wx = wc)
                case first =>
                  as_aux_lemma =>
                    by_cases h36 : op = 36
                    · have u2 := U2.out
                      rw [if_pos (.inr h36)] at u2
                      subst h36
                      have ha : (j : Int) + 1 + a ≤ n ∧ 0 ≤ (j : Int) + 1 + a := by omega
                      have UU := Lib.hid u2
                      clear u2
                      go_wp2_with fail
                      go_meet
                      case rel => exact ⟨by rw [UU.out], rfl⟩
                    · have hb36 : (op == 36) = false := by simpa using h36
                      have UU : Hid ((T2 : Int) = (T1 : Int)) := by
                        have u1 := U1.out
                        have u2 := U2.out
                        by_cases h35 : op = 35
                        · rw [if_pos h35] at u1; rw [if_pos (.inl h35)] at u2; exact u2.trans u1.symm
                        · rw [if_neg h35] at u1; rw [if_neg (by omega)] at u2; exact u2.trans u1.symm
                      clear h36
                      go_wp2_with fail
                      go_meet
                      case rel => exact ⟨by rw [UU.out], rfl⟩
                case rest =>
                  obtain ⟨rfl, rfl⟩ := hcut
                  obtain ⟨odd, hodd⟩ : ∃ odd : Bool, odd = (op == 38 && (Bd.fn fs a).delta != 0) := ⟨_, rfl⟩
                  have HODD := Lib.hid hodd
                  clear hodd
                  go_upto_region 31 with (fail)
                  go_cut [20] (fun s20 wx => s20 = .bool odd ∧ wx = wc)
                  case first =>
                    as_aux_lemma =>
                      by_cases h38 : op = 38
                      · subst h38
                        obtain ⟨fb, fo, rfl, hfB, f0, f1, f2, f3⟩ := HFN.out wc hb_ rfl
                        have hcb := Bd.calls_bd (x := (38, a)) HAL.out rfl
                        simp only at hcb
                        clear f0 f2 f3
                        go_wp2_with fail
                        go_meet
                        case rel => exact ⟨by rw [HODD.out]; simp, rfl⟩
                      · have hb38 : (op == 38) = false := by simpa using h38
                        clear h38
                        go_wp2_with fail
                        go_meet
                        case rel => exact ⟨by rw [HODD.out, hb38]; simp, rfl⟩
                  case rest =>
                    obtain ⟨rfl, rfl⟩ := hcut
                    have harr5 := (HARR.out.below hb2 (by omega)).below hb_ (by omega)
                    have hln := HOK.out.len
                    have a1 := harr5.kat (t := T1) (by omega)
                    have a2 := harr5.kat (t := T2) (by omega)
                    have a3 := harr5.hat (t := T1) (by omega)
                    have a4 := harr5.hat (t := T2) (by omega)
                    have a5 := harr5.sat (t := T1) (by omega)
                    have a6 := harr5.sat (t := T2) (by omega)
                    have o1 := Bd.pat_bd HOK.out T1
                    have o2 := Bd.pat_bd HOK.out T2
                    unfold Bd.okP at o1 o2
                    have HA5 := Lib.hid harr5
                    have HLN := Lib.hid hln
                    clear harr5 hln
                    obtain ⟨p1, hp1⟩ : ∃ p1, p1 = Bd.pat st.pl T1 := ⟨_, rfl⟩
                    obtain ⟨p2, hp2⟩ : ∃ p2, p2 = Bd.pat st.pl T2 := ⟨_, rfl⟩
                    rw [← hp1] at a1 a3 a5 o1
                    rw [← hp2] at a2 a4 a6 o2
                    have HP1 := Lib.hid hp1
                    have HP2 := Lib.hid hp2
                    clear hp1 hp2
                    obtain ⟨k1, h1, s1⟩ := p1
                    obtain ⟨k2, h2, s2⟩ := p2
                    simp only at a1 a2 a3 a4 a5 a6 o1 o2
                    have hT1 : T1 < n + 1 := by omega
                    have hT2 : T2 < n + 1 := by omega
                    obtain ⟨bad, hbad⟩ : ∃ bad : Bool, bad = (odd || decide (32 < max st.need ev.need) || decide (32 < max st.peak ev.peak) || (k1 && h1 != ev.high) || (k2 && h2 != ev.high)) := ⟨_, rfl⟩
                    have HBAD := Lib.hid hbad
                    clear hbad
                    go_upto_region 32 with (fail)
                    go_cut [178] (fun s178 wx => s178 = .bool bad ∧ wx = wc)
                    case first =>
                      as_aux_lemma =>
                        cases odd <;> cases k1 <;> cases k2 <;> go_wp2_with fail
                        all_goals (go_meet; exact ⟨by rw [HBAD.out]; simp_all, rfl⟩)
                    case rest =>
                      obtain ⟨rfl, rfl⟩ := hcut
                      have hlook := Bd.look_ref n fs st j (op, a) (by rw [← HM.out]; exact HAL.out) HKN.out ev HEV.out bad (by rw [HBAD.out, HODD.out, HT1.out, HT2.out, ← HP1.out, ← HP2.out])
                      rw [HT1.out, HT2.out] at hlook
                      have hbw : Below (w.heap.size + 1) (w.alloc (.cells #[.int .i64 0, .int .i64 0, .int .i64 0, .int .i64 0] 78)) wc := hb.trans ((hb2.mono (by omega)).trans (hb_.mono (by omega)))
                      have hrs := HREST.out
                      rw [HDROP.out, Bd.rest, hlook] at hrs
                      clear HFN HFB HREST HDROP hlook HBX x0 x1
                      cases bad with
                      | true =>
                        simp only [↓reduceIte, ne_eq, Int.reduceEq, not_false_eq_true] at hrs
                        have HRS := Lib.hid hrs
                        clear hrs a1 a2 a3 a4 a5 a6
                        have hk1 : Blk wc w.heap.size 78 #[.int .i64 0, .int .i64 0, .int .i64 0, .int .i64 0] := (Blk.new w _ _).below hbw (by simp)
                        have q := hk1.cell
                        have z := hk1.frozen
                        have hlt2 := hk1.lt
                        clear hk1
                        go_wp2
                        refine bodyPost_ret (v := .tuple #[.agg #[.int .i64 0, .int .i64 0, .int .i64 0, .int .i64 0], .int .i64 j, .int .i64 51]) (by simp [results, Tryz.results68, go_sem, q]) rfl ⟨by rw [HRS.out]; rfl, ?_⟩
                        have hb3 : Below w.heap.size w wc := ((Below.refl _ _).alloc (Nat.le_refl _) _).trans (hbw.mono (by omega))
                        exact ((((hb3.setCell (Nat.le_refl _) _).setCell (Nat.le_refl _) _).setCell (Nat.le_refl _) _).setCell (Nat.le_refl _) _)
                      | false =>
                        by_cases hs4 : 4096 < ev.steps
                        · simp only [hs4, ↓reduceIte, ne_eq, Int.reduceEq, not_false_eq_true, Bool.false_eq_true] at hrs
                          have HRS := Lib.hid hrs
                          clear hrs a1 a2 a3 a4 a5 a6
                          have hk1 : Blk wc w.heap.size 78 #[.int .i64 0, .int .i64 0, .int .i64 0, .int .i64 0] := (Blk.new w _ _).below hbw (by simp)
                          have q := hk1.cell
                          have z := hk1.frozen
                          have hlt2 := hk1.lt
                          clear hk1
                          go_wp2
                          refine bodyPost_ret (v := .tuple #[.agg #[.int .i64 0, .int .i64 0, .int .i64 0, .int .i64 0], .int .i64 j, .int .i64 53]) (by simp [results, Tryz.results68, go_sem, q]) rfl ⟨by rw [HRS.out]; rfl, ?_⟩
                          have hb3 : Below w.heap.size w wc := ((Below.refl _ _).alloc (Nat.le_refl _) _).trans (hbw.mono (by omega))
                          exact ((((hb3.setCell (Nat.le_refl _) _).setCell (Nat.le_refl _) _).setCell (Nat.le_refl _) _).setCell (Nat.le_refl _) _)
                        · simp only [hs4, ↓reduceIte, ne_eq, Bool.false_eq_true, not_true_eq_false] at hrs
                          have HRS := Lib.hid hrs
                          clear hrs
                          have z1 := HA5.out.k.frozen
                          have z2 := HA5.out.h.frozen
                          have z3 := HA5.out.s.frozen
                          have hg3 := HA5.out.lt
                          have hg1 : wo.heap.size ≠ wo.heap.size + 1 := by omega
                          have hg2 : wo.heap.size ≠ wo.heap.size + 1 + 1 := by omega
                          have hg4 : wo.heap.size + 1 ≠ wo.heap.size + 1 + 1 := by omega
                          have hg5 : wo.heap.size + 1 ≠ wo.heap.size := by omega
                          have hg6 : wo.heap.size + 1 + 1 ≠ wo.heap.size := by omega
                          have hg7 : wo.heap.size + 1 + 1 ≠ wo.heap.size + 1 := by omega
                          have hok2 : Bd.Ok n ⟨Bd.mark ev (Bd.mark ev st.pl T1) T2, max st.need ev.need, max st.peak ev.peak⟩ := by
                            have hlook := Bd.look_ref n fs st j (op, a) (by rw [← HM.out]; exact HAL.out) HKN.out ev HEV.out false (by rw [HBAD.out, HODD.out, HT1.out, HT2.out, ← HP1.out, ← HP2.out])
                            rw [HT1.out, HT2.out, if_neg (by simp), if_neg hs4] at hlook
                            have h3 := Bd.look_ok (n := n) (x := (op, a)) (at_ := j) HMAY.out HOK.out (by rw [hlook])
                            rw [hlook] at h3
                            exact h3
                          have HOK2 := Lib.hid hok2
                          clear hok2
                          by_cases h12 : T1 = T2
                          · subst h12
                            have hs12 : s2 = s1 := by have q1 := HP1.out; have q2 := HP2.out; rw [← q1] at q2; injection q2
                            subst hs12
                            go_wp2_with fail
                            refine ⟨⟨j + 1, ⟨Bd.mark ev (Bd.mark ev st.pl T1) T1, max st.need ev.need, max st.peak ev.peak⟩, by omega, by go_num, rfl, rfl, arr_marks HA5.out ev T1 T1 _ _ (by rw [← HP1.out]) (by rw [Bd.mark_pat_same _ _ _ (by have := HLN.out; omega), ← HP1.out]; simp only; omega), HOK2.out, by rw [HRS.out, show ((j + 1 : Nat) : Int) = (j : Int) + 1 by omega], ?_⟩, by simp [intOf]; omega⟩
                            exact (((((hbw.setCell (by simp; omega) _).setCell (by simp; omega) _).setCell (by simp; omega) _).setCell (by simp; omega) _).setCell (by simp; omega) _).setCell (by simp; omega) _
                          · have h21 : T2 ≠ T1 := fun e => h12 e.symm
                            go_wp2_with fail
                            refine ⟨⟨j + 1, ⟨Bd.mark ev (Bd.mark ev st.pl T1) T2, max st.need ev.need, max st.peak ev.peak⟩, by omega, by go_num, rfl, rfl, arr_marks HA5.out ev T1 T2 _ _ (by rw [← HP1.out]) (by rw [Bd.mark_pat_other _ _ _ _ h12, ← HP2.out]), HOK2.out, by rw [HRS.out, show ((j + 1 : Nat) : Int) = (j : Int) + 1 by omega], ?_⟩, by simp [intOf]; omega⟩
                            exact (((((hbw.setCell (by simp; omega) _).setCell (by simp; omega) _).setCell (by simp; omega) _).setCell (by simp; omega) _).setCell (by simp; omega) _).setCell (by simp; omega) _
          · have hrs := HREST.out
            have hlook : Bd.look n fs st j (op, a) = (Bd.always n m j (op, a), st) := by unfold Bd.look; rw [← HM.out, if_pos hal]
            rw [HDROP.out, Bd.rest, hlook] at hrs
            simp only [hal, ne_eq, not_false_eq_true, ↓reduceIte] at hrs
            have HRS := Lib.hid hrs
            have hrb : (Bd.always n m j (op, a) != 0) = true := by simpa using hal
            have hbw : Below (w.heap.size + 1) (w.alloc (.cells #[.int .i64 0, .int .i64 0, .int .i64 0, .int .i64 0] 78)) w1 := hb.trans (hb2.mono (by omega))
            clear hrs hlook hal HREST HDROP HBX
            generalize Bd.always n m j (op, a) = rr at *
            have hk1 : Blk w1 w.heap.size 78 #[.int .i64 0, .int .i64 0, .int .i64 0, .int .i64 0] := (Blk.new w _ _).below hbw (by simp)
            have q := hk1.cell
            have z := hk1.frozen
            have hlt2 := hk1.lt
            clear hk1
            go_wp2
            refine bodyPost_ret (v := .tuple #[.agg #[.int .i64 0, .int .i64 0, .int .i64 0, .int .i64 0], .int .i64 j, .int .i64 rr]) (by simp [results, Tryz.results68, go_sem, q]) rfl ⟨by rw [HRS.out]; rfl, ?_⟩
            have hb3 : Below w.heap.size w w1 := ((Below.refl _ _).alloc (Nat.le_refl _) _).trans (hbw.mono (by omega))
            exact ((((hb3.setCell (Nat.le_refl _) _).setCell (Nat.le_refl _) _).setCell (Nat.le_refl _) _).setCell (Nat.le_refl _) _)
        · have hjn2 : j = n := by omega
          obtain ⟨q, hq⟩ : ∃ q, Bd.pat st.pl (n : Int) = q := ⟨_, rfl⟩
          have hln := HOK.out.len
          have hrs : Bd.code l fs = (⟨st.need, q.high, st.peak, q.steps⟩, 0, 0) := by
            have hd : l.drop j = [] := List.drop_eq_nil_of_le (by have := HNL.out; omega)
            rw [HREST.out, hd, Bd.rest, hjn2, hq]
          have HRS := Lib.hid hrs
          have a3 := HARR.out.hat (t := n) (by omega)
          have a5 := HARR.out.sat (t := n) (by omega)
          rw [hq] at a3 a5
          obtain ⟨qk, qh, qs⟩ := q
          simp only at a3 a5 HRS
          have hk1 : Blk wr w.heap.size 78 #[.int .i64 0, .int .i64 0, .int .i64 0, .int .i64 0] := (Blk.new w _ _).below hb (by omega)
          have q := hk1.cell
          have z := hk1.frozen
          have hlt2 := hk1.lt
          have i1 : (0 : Int) ≤ (n : Int) := by omega
          have i2 : (n : Int) < (n : Int) + 1 := by omega
          have i3 : n < n + 1 := by omega
          have hbe : Below w.heap.size w wr := ((Below.refl _ _).alloc (Nat.le_refl _) _).trans (hb.mono (by omega))
          have y1 : wo.heap.size + 1 ≠ w.heap.size := by omega
          have y2 : wo.heap.size + 1 + 1 ≠ w.heap.size := by omega
          have HQ0 := Lib.hid hq
          have HJ := Lib.hid hjn2
          clear hk1 hrs HREST HARR HOK hln hL hq hjn2
          go_wp2_with fail
          go_region_held3 (fun w' => w'.cell? ⟨wo.heap.size + 1, n, none⟩ = some (.int .i64 qh) ∧ w'.cell? ⟨wo.heap.size + 1 + 1, n, none⟩ = some (.int .i64 qs)) (first | (go_keep; done) | (refine ⟨?_, ?_⟩ <;> first | (go_keep; done) | (simp [go_sem, a3]; done) | (simp [go_sem, a5]; done))) (first | fail)
          go_wp2
          refine bodyPost_ret (v := .tuple #[.agg #[.int .i64 st.need, .int .i64 qh, .int .i64 st.peak, .int .i64 qs], .int .i64 0, .int .i64 0]) (by simp [results, Tryz.results68, go_sem, q]) rfl ⟨by rw [HRS.out]; rfl, (by repeat (first | exact Below.refl _ _ | assumption | (refine Below.setCell ?_ (by first | omega | (simp; done) | (simp; omega)) _) | (refine Below.drew ?_) | (refine below_drewN ?_ _) | (refine Below.alloc ?_ (by first | omega | (simp; done) | (simp; omega)) _)))⟩
end Go.Proofs.YtnhebmgibiomnaaGreat
