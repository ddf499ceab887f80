/- Parts of the proof, joined: SrM MaX MaV MaY. -/
import Derived.BigQuiet
import Derived.BigRegion
import Derived.Conc.MuLone
import Derived.Deep.Light
import Derived.Deep.LoopGhost
import Derived.Deep.QuietTactic
import Derived.Deep.RegionHeld3
import Derived.Laws.EntriesVeiled
import Derived.Maps.Keyed
import Derived.StillTailTactics
import Derived.Test.YtnhebmgibiomnaaGreatPa10
import Derived.Test.YtnhebmgibiomnaaGreatPa5
set_option linter.unusedVariables false
set_option linter.unusedSimpArgs false
namespace Go.Proofs.YtnhebmgibiomnaaGreat
open Go.RowKit Mc
theorem sbehind_any (c : Nat × Nat) (p : Nat) (w : World) (hp : p ≤ 1000000) :
    Calls Tryz.prog 229 #[.agg #[.int .i64 c.1, .int .i64 c.2], .int .i64 p] w fun e w' => e = .returned (.int .i64 (behind c p)) ∧ Below w.heap.size w w' := by
  obtain ⟨c1, c2⟩ := c
  by_cases h : p = c2
  · have HB : Hid (behind (c1, c2) p = c1) := Lib.hid (by unfold behind; rw [if_pos h])
    subst h
    go_enter Tryz.func229, Tryz.ntmps229
    go_wp2
    go_ret
    exact ⟨ret_int (by rw [HB.out]), (Below.refl _ _).alloc (Nat.le_refl _) _⟩
  · have HB : Hid (behind (c1, c2) p = p + 1) := Lib.hid (by unfold behind; rw [if_neg h])
    have h' : ¬ (p : Int) = (c2 : Int) := by omega
    go_enter Tryz.func229, Tryz.ntmps229
    go_wp2
    go_ret
    exact ⟨ret_int (by rw [HB.out]; simp), (Below.refl _ _).alloc (Nat.le_refl _) _⟩
theorem shl_axis {axis : Int} (ha : 0 ≤ axis ∧ axis ≤ 1) : RowKit.wrap64 (2 ^ min axis.toNat 64) = axis + 1 := by
  obtain ⟨h0, h1⟩ := ha
  rcases (show axis = 0 ∨ axis = 1 by omega) with rfl | rfl <;> simp [RowKit.wrap64]
theorem shl_axis' {axis : Int} (ha : 0 ≤ axis ∧ axis ≤ 1) : RowKit.wrap64 (2 ^ axis.toNat) = axis + 1 := by
  obtain ⟨h0, h1⟩ := ha
  rcases (show axis = 0 ∨ axis = 1 by omega) with rfl | rfl <;> simp [RowKit.wrap64]
theorem SrL.olt {w : World} {sb : Nat} {L : SLay} {s : Sr.St} (h : SrL w sb L s) {k : Nat} (hk : SrS L sb k) : k < w.heap.size := h.lt (by
  rcases hk with e | e | e | e | e
  · exact .inl e
  · exact .inr (.inr (.inl e))
  · exact .inr (.inr (.inr (.inl e)))
  · exact .inr (.inr (.inr (.inr (.inr (.inr (.inl e))))))
  · exact .inr (.inr (.inr (.inr (.inr (.inr (.inr e)))))))
theorem SrL.drewN {w : World} {sb : Nat} {L : SLay} {s : Sr.St} (h : SrL w sb L s) (n : Nat) : SrL (w.drewN n) sb L s := h.keep fun _ _ => rfl
theorem SrL.below {w w' : World} {sb : Nat} {L : SLay} {s : Sr.St} (h : SrL w sb L s) (hb : Below w.heap.size w w') : SrL w' sb L s := h.keep fun k hk => hb.block k (h.lt hk)
def SInA (w : World) (sb : Nat) (L : SLay) (s : Sr.St) (axis : Int) (i : Value) (wr : World) : Prop :=
  ∃ k : Nat, k ≤ s.m.cont.length ∧ i = .int .i64 k ∧ SrL wr sb L { s with m := { s.m with cur := (s.m.cont.take k).foldl (fun cur c => contour s.m.org s.m.touch axis cur c) s.m.cur } } ∧ Fr (SrS L sb) w wr
def SInB (w : World) (sb : Nat) (L : SLay) (s : Sr.St) (axis : Int) (c : Nat × Nat) (cb : Nat) (v p : Value) (wq : World) : Prop :=
  ∃ (q : Nat) (A : Option Addr) (cc : Nat), c.1 ≤ q ∧ q ≤ c.2 + 1 ∧ p = .int .i64 q ∧ v = .slice A (fx s.m.touch axis c.1 (q - c.1)).length cc ∧ OwnAt (Repr.int (N0 := 0)) 3 (cb + 1) wq v ((fx s.m.touch axis c.1 (q - c.1)).map Int.ofNat) ∧
    SrL wq sb L s ∧ Blk wq cb 157 #[.int .i64 c.1, .int .i64 c.2] ∧ Fr (SrS L sb) w wq
structure SJn (w : World) (sb : Nat) (L : SLay) (s : Sr.St) (c : Nat × Nat) (cb g : Nat) (l : List Nat) (cur : List (Int × Int)) (wq : World) : Prop where
  ma : SrL wq sb L { s with m := { s.m with cur := cur } }
  fix : ∀ (i x : Nat), l[i]? = some x → g < wq.heap.size ∧ wq.cell? ⟨g, i, none⟩ = some (.int .i64 x)
  blk : Blk wq cb 157 #[.int .i64 c.1, .int .i64 c.2]
  fr : Fr (SrS L sb) w wq
  gno : ¬ SrS L sb g
  cno : ¬ SrS L sb cb
section
variable {w wq w2 : World} {sb : Nat} {L : SLay} {s : Sr.St} {c : Nat × Nat} {cb g : Nat} {l : List Nat} {cur cur' : List (Int × Int)}
theorem SJn.go (h : SJn w sb L s c cb g l cur wq) (hf : Fr (SrS L sb) wq w2) (hm : SrL w2 sb L { s with m := { s.m with cur := cur' } }) : SJn w sb L s c cb g l cur' w2 :=
  ⟨hm, fun i x hx => ⟨Nat.lt_of_lt_of_le (h.fix i x hx).1 hf.size, (hf.cell (p := ⟨g, i, none⟩) (h.fix i x hx).1 h.gno).trans (h.fix i x hx).2⟩, hf.blk h.blk h.cno, h.fr.trans hf, h.gno, h.cno⟩
theorem SJn.below (h : SJn w sb L s c cb g l cur wq) (hb : Below wq.heap.size wq w2) : SJn w sb L s c cb g l cur w2 :=
  h.go (Fr.of_below hb (fun _ hk _ => hk)) (h.ma.below hb)
end
def SInC (w : World) (sb : Nat) (L : SLay) (s : Sr.St) (axis : Int) (c : Nat × Nat) (cb g : Nat) (l : List Nat) (cur : List (Int × Int)) (i : Value) (wq : World) : Prop :=
  ∃ k : Nat, k ≤ l.length ∧ i = .int .i64 k ∧ SJn w sb L s c cb g l (segs s.m.org l axis c cur k) wq
def SInD (w : World) (sb : Nat) (L : SLay) (s : Sr.St) (axis : Int) (c : Nat × Nat) (cb g : Nat) (l : List Nat) (a b : Nat) (T : List (Int × Int)) (p : Value) (wq : World) : Prop :=
  ∃ (q n : Nat) (cur : List (Int × Int)), c.1 ≤ q ∧ q ≤ c.2 ∧ p = .int .i64 q ∧ dist c b q ≤ n ∧ seg s.m.org axis c a b n q cur = T ∧ SJn w sb L s c cb g l cur wq
set_option maxRecDepth 100000 in
set_option maxHeartbeats 4000000 in
theorem sinter_any (w : World) (sb : Nat) (L : SLay) (s : Sr.St) (h : SrL w sb L s) (axis : Int) (ha : 0 ≤ axis ∧ axis ≤ 1) :
    Calls Tryz.prog 147 #[.pointer (some ⟨sb, 0, none⟩), .int .i64 axis] w (SPost w sb L { s with m := inter s.m axis }) := by
  have H0 : Hid (SInA w sb L s axis (.int .i64 0) w) := Lib.hid ⟨0, Nat.zero_le _, rfl, by simpa using h, Fr.refl _ _⟩
  obtain ⟨i0, hi0, hi1, hi2, hi3⟩ := info_m info_int
  obtain ⟨Ac, cc, hvc, _, _⟩ := owns_form h.co
  have c6 := h.c68
  rw [hvc] at c6
  have HVC := Lib.hid hvc
  have hctl := h.ok.m.contl
  have hcul := h.ok.m.curl
  have HOK := Lib.hid h.ok.m
  clear h hvc
  go_enter Tryz.func147, Tryz.ntmps147
  go_wp2_with fail
  go_loopw [17] (fun i wr => SInA w sb L s axis i wr) (fun i _ => s.m.cont.length - (intOf i).toNat)
  case atStart => exact H0.out
  case round =>
    clear H0 c6
    obtain ⟨k, hk, rfl, hM, hfr⟩ := hrel
    have HM := Lib.hid hM
    have HF := Lib.hid hfr
    by_cases hlt : (k : Int) < s.m.cont.length
    · obtain ⟨c, hc⟩ : ∃ c, s.m.cont[k]? = some c := ⟨_, List.getElem?_eq_getElem (by omega)⟩
      obtain ⟨hc1, hc2⟩ := HOK.out.cont c (List.mem_of_getElem? hc)
      obtain ⟨gc, cc', hv', hcc, _, hgl, hcells⟩ := owns_at hM.co (by simp only; omega)
      rw [HVC.out] at hv'
      injection hv' with e1 _ e2
      subst e1 e2
      have x0 := hcells _ _ (cts_get hc).1
      have x1 := hcells _ _ (cts_get hc).2
      have HLT := Lib.hid (show ∀ k, (k = sb ∨ L.og.ownBlock = some k ∨ L.cu.ownBlock = some k ∨ L.tq.ownBlock = some k ∨ L.en.ownBlock = some k ∨ L.co.ownBlock = some k ∨ L.cv.ownBlock = some k ∨ L.st.ownBlock = some k) → k < wr.heap.size from fun k hk => hM.lt hk)
      have HOlt := Lib.hid (show ∀ k, SrS L sb k → k < wr.heap.size from fun k hk => hM.olt hk)
      have HT : Hid (s.m.cont.take (k + 1) = s.m.cont.take k ++ [c]) := Lib.hid (by rw [List.take_add_one, hc]; rfl)
      have hmb := hM.blk.lt
      generalize hck : (s.m.cont.take k).foldl (fun cur c => contour s.m.org s.m.touch axis cur c) s.m.cur = ck at *
      have HCK := Lib.hid hck
      obtain ⟨c1, c2⟩ := c
      dsimp only at hc1 hc2 x0 x1
      clear hM hfr hcells hc hck
      go_wp2_with fail
      generalize hs1 : ({ s with m := { s.m with cur := ck } } : Sr.St) = s1 at HM
      have es1 : s1.m.org = s.m.org ∧ s1.m.touch = s.m.touch ∧ s1.m.cur = ck ∧ s1.m.cur.length = s.m.cur.length := by subst hs1; exact ⟨rfl, rfl, rfl, by have := HM.out.ok.m.orgl; have := HOK.out.orgl; simp only at *; omega⟩
      have HS1 := Lib.hid hs1
      clear hs1
      have HB0 : Hid (SInB w sb L s1 axis (c1, c2) wr.heap.size (.slice none 0 0) (.int .i64 c1) (wr.alloc (.cells #[.int .i64 c1, .int .i64 c2] 157))) := Lib.hid ⟨c1, none, 0, Nat.le_refl _, by simp only; omega, rfl, by simp [fx], by simpa [fx] using OwnAt.nil _ _ _ _, HM.out.alloc _, Blk.new _ _ _, HF.out.alloc _⟩
      generalize wr.alloc (.cells #[.int .i64 c1, .int .i64 c2] 157) = w1 at *
      generalize hcb : wr.heap.size = cb at *
      have hwcb : w.heap.size ≤ cb := by have := HF.out.size; omega
      have hcno : ¬ SrS L sb cb := fun e => by have := HOlt.out cb e; omega
      have HNO := Lib.hid (show ∀ k, cb ≤ k → ¬ SrS L sb k from fun k hk e => by have := HOlt.out k e; omega)
      have HNOC := Lib.hid hcno
      have HLE := Lib.hid (show ∀ k, (k = sb ∨ L.og.ownBlock = some k ∨ L.cu.ownBlock = some k ∨ L.tq.ownBlock = some k ∨ L.en.ownBlock = some k ∨ L.co.ownBlock = some k ∨ L.cv.ownBlock = some k ∨ L.st.ownBlock = some k) → k ≤ cb from fun k hk => by have := HLT.out k hk; omega)
      clear HM HF HOlt x0 x1 hgl hcb hcno
      go_loopw [6, 7] (fun v p wq => SInB w sb L s1 axis (c1, c2) cb v p wq) (fun _ p _ => c2 + 1 - (intOf p).toNat)
      case atStart => exact HB0.out
      case round =>
        clear HB0
        obtain ⟨q, A, ac, hq1, hq2, rfl, rfl, hown, hma, hblk, hfr⟩ := hrel
        dsimp only at hq1 hq2 hown
        have HMA := Lib.hid hma
        have HBK := Lib.hid hblk
        have HFR := Lib.hid hfr
        have HOW := Lib.hid hown
        have k0 := hblk.cell 0
        have k1 := hblk.cell 1
        simp only [List.getElem?_toArray, List.getElem?_cons_zero, List.getElem?_cons_succ] at k0 k1
        have hcbl := hblk.lt
        by_cases hle : (q : Int) ≤ (c2 : Int)
        · have hql : q < s1.m.touch.length := by rw [hma.ok.m.tl, es1.2.2.2]; omega
          obtain ⟨t, ht⟩ : ∃ t, s1.m.touch[q]? = some t := ⟨_, List.getElem?_eq_getElem hql⟩
          have htt := hma.ok.m.touch t (List.mem_of_getElem? ht)
          obtain ⟨gt, ct, hvt, hct1, _, hgtl, htc⟩ := owns_at hma.tq (by omega)
          have d0 := htc _ _ (ints_get ht)
          have c4 := hma.c66
          rw [hvt] at c4
          have hmbl := hma.blk.lt
          have htl := hma.ok.m.tl
          rw [es1.2.2.2] at htl
          have hqi : (q : Int) < (s1.m.touch.length : Int) := by omega
          have HFX := Lib.hid (fx_succ s1.m.touch axis c1 (q - c1))
          rw [show q - c1 + c1 = q by omega, getD_of ht, show q - c1 + 1 = q + 1 - c1 by omega] at HFX
          have HBT := Lib.hid (bits_bit ha htt)
          have ES1 := Lib.hid es1
          have HTL := Lib.hid htl
          clear hma hblk hfr hown ht htc hvt es1 htl
          go_wp2_with fail
          have hsh := shl_axis ha
          have hsh' := shl_axis' ha
          go_quiet (fail)
          rename_i nq
          clear c4 d0 hsh hsh'
          have HMD := Lib.hid (HMA.out.drewN nq)
          have HBD := Lib.hid (show Blk (wr.drewN nq) cb 157 #[.int .i64 c1, .int .i64 c2] from HBK.out)
          have HFD := Lib.hid (show Fr (SrS L sb) w (wr.drewN nq) from HFR.out.trans ⟨rfl, rfl, rfl, Nat.le_refl _, fun _ _ _ => rfl⟩)
          have HOD := Lib.hid (HOW.out.below (below_drewN (Below.refl wr.heap.size wr) nq) (Nat.le_refl _))
          have hzz : (wr.drewN nq).heap.size = wr.heap.size := rfl
          have hfl := fx_len s1.m.touch axis c1 (q - c1)
          have HMAP : Hid (((fx s1.m.touch axis c1 (q - c1)).map Int.ofNat).length = (fx s1.m.touch axis c1 (q - c1)).length) := Lib.hid (List.length_map _)
          generalize hfx : fx s1.m.touch axis c1 (q - c1) = F at *
          by_cases hbb : (bits BinOp.and .i64 t (axis + 1) != 0) = true
          · rw [hbb] at HBT
            rw [← HBT.out, if_pos rfl] at HFX
            have HOA := Lib.hid (HOD.out.below ((Below.refl (wr.drewN nq).heap.size (wr.drewN nq)).alloc (Nat.le_refl _) (.cells #[.int .i64 (q : Int)] 3)) (Nat.le_refl _))
            have HOB : Hid (OwnAt (Repr.int (N0 := 0)) 3 (cb + 1) ((wr.drewN nq).alloc (.cells #[.int .i64 (q : Int)] 3)) (.slice A (F.map Int.ofNat).length ac) (F.map Int.ofNat)) := Lib.hid (by rw [HMAP.out]; exact HOA.out)
            have hFl : (F.map Int.ofNat).length ≤ 1000000 := by rw [HMAP.out]; omega
            clear hfx HOW HMA HBK HFR HOD HOA
            rw [← HMAP.out]
            go_wp2_with (at_builtin; refine wpList_push _ rfl (.tmp 41) (.tmp 43) _ rfl (Repr.int (N0 := 0)) (cb + 1) 3 i0 _ 8 Tryz.underlying22 hi0 hi1 hi2 hi3 rfl (show 0 < 1 by decide) (by simp [Repr.int]) (Nat.zero_le _) (.slice A (F.map Int.ofNat).length ac) (F.map Int.ofNat) rfl HOB.out wr.heap.size [_] (q : Int) rfl (Blk.new _ _ _) ⟨rfl, (by unfold I64; omega)⟩ (by unfold maxLen; omega) (by omega) (by simp; omega) ?_; intro A3 c3 w3 hown3 hg3)
            have hrow : ∀ g, (Value.slice A (F.map Int.ofNat).length ac).ownBlock = some g → cb < g := fun g e => (HOB.out.block e).1
            have hMA := HMD.out.alloc (.cells #[.int .i64 (q : Int)] 3)
            have hgk : ∀ k, k ≤ cb → w3.heap[k]? = ((wr.drewN nq).alloc (.cells #[.int .i64 (q : Int)] 3)).heap[k]? := fun k hk => hg3.block k (by simp; omega) (fun e => by have := hrow k e.symm; omega)
            have hgz : ((wr.drewN nq).alloc (.cells #[.int .i64 (q : Int)] 3)).heap.size ≤ w3.heap.size := hg3.size
            refine ⟨⟨q + 1, A3, c3, by simp only; omega, by simp only; omega, by go_num, ?_, ?_, ?_, ?_, ?_⟩, by simp [intOf]; omega⟩
            · simp only [HFX.out, List.length_append, List.length_singleton]
            · simp only [HFX.out, List.map_append, List.map_cons, List.map_nil]
              rw [← HMAP.out]
              exact hown3
            · exact hMA.keep fun k hk => hgk k (HLE.out k hk)
            · exact (hgk cb (Nat.le_refl _)).trans (HBD.out.alloc _)
            · have hFA := HFD.out.alloc (.cells #[.int .i64 (q : Int)] 3)
              exact ⟨hg3.os.trans hFA.os, hg3.tape.trans hFA.tape, hg3.output.trans hFA.output, Nat.le_trans hFA.size hgz, fun k hk hs => (hgk k (by omega)).trans (hFA.block k hk hs)⟩
          · have hbb' : (bits BinOp.and .i64 t (axis + 1) != 0) = false := by simpa using hbb
            rw [hbb'] at HBT
            rw [← HBT.out] at HFX
            simp only [Bool.false_eq_true, if_false, List.append_nil] at HFX
            go_wp2_with fail
            refine ⟨⟨q + 1, A, ac, by simp only; omega, by simp only; omega, by go_num, ?_, ?_, HMD.out, HBD.out, HFD.out⟩, by simp [intOf]; omega⟩
            · simp only [HFX.out]
            · simp only [HFX.out]; exact HOD.out
        · obtain ⟨g, A', ac', hve, hlc, hgb, hcell⟩ := hown.ints
          simp only [List.length_map] at hve hlc
          injection hve with e1 _ e2
          subst e1 e2
          have hqe : q - c1 = c2 + 1 - c1 := by omega
          rw [hqe] at hcell hlc
          have hfl := fx_len s1.m.touch axis c1 (c2 + 1 - c1)
          have HFM : Hid (∀ p ∈ fx s1.m.touch axis c1 (c2 + 1 - c1), c1 ≤ p ∧ p ≤ c2) := Lib.hid (fun p hp => by have := fx_mem hp; omega)
          have HCE := Lib.hid (contour_eq s1.m.org s1.m.touch axis s1.m.cur (c1, c2))
          simp only at HCE
          rw [hqe]
          generalize hfx : fx s1.m.touch axis c1 (c2 + 1 - c1) = F at *
          have HJ : Hid (SInC w sb L s1 axis (c1, c2) cb g F s1.m.cur (.int .i64 0) wr) := Lib.hid ⟨0, Nat.zero_le _, rfl, by
            refine ⟨by simpa [segs] using hma, fun i x hx => ?_, hblk, hfr, HNO.out g (by omega), HNOC.out⟩
            have := hcell i (x : Int) (by rw [List.getElem?_map, hx]; rfl)
            exact this.2⟩
          have hA : 0 < F.length → A = some ⟨g, 0, none⟩ := fun h0 => (hcell 0 (F[0] : Int) (by rw [List.getElem?_map, List.getElem?_eq_getElem h0]; rfl)).1
          have HA := Lib.hid hA
          have ES1 := Lib.hid es1
          clear hma hblk hfr hown hcell hA hfx HMA HBK HFR HOW hqe es1
          go_wp2_with fail
          clear k0 k1 hcbl
          go_loopw [47] (fun i wq => SInC w sb L s1 axis (c1, c2) cb g F s1.m.cur i wq) (fun i _ => F.length - (intOf i).toNat)
          case atStart => exact HJ.out
          case round =>
            clear HJ
            obtain ⟨j, hj, rfl, hjn⟩ := hrel
            have HJN := Lib.hid hjn
            by_cases hjl : (j : Int) < F.length
            · obtain ⟨a, hFa⟩ : ∃ a, F[j]? = some a := ⟨_, List.getElem?_eq_getElem (by omega)⟩
              have hjm : (j + 1) % F.length < F.length := Nat.mod_lt _ (by omega)
              obtain ⟨b, hFb⟩ : ∃ b, F[(j + 1) % F.length]? = some b := ⟨_, List.getElem?_eq_getElem hjm⟩
              obtain ⟨ha1, ha2⟩ := HFM.out a (List.mem_of_getElem? hFa)
              obtain ⟨hb1, hb2⟩ := HFM.out b (List.mem_of_getElem? hFb)
              have HSS := Lib.hid (segs_succ (org := s1.m.org) (axis := axis) (c := (c1, c2)) (cur := s1.m.cur) hFa hFb)
              have m0 := (hjn.fix _ _ hFa).2
              have m1 := (hjn.fix _ _ hFb).2
              have hgl := (hjn.fix _ _ hFa).1
              have k0 := hjn.blk.cell 0
              have k1 := hjn.blk.cell 1
              simp only [List.getElem?_toArray, List.getElem?_cons_zero, List.getElem?_cons_succ] at k0 k1
              have hcbl := hjn.blk.lt
              have hAe := HA.out (by omega)
              subst hAe
              have hmod : Int.tmod ((j : Int) + 1) (F.length : Int) = (((j + 1) % F.length : Nat) : Int) := by
                rw [Int.tmod_eq_emod_of_nonneg (by omega)]; simp
              have hF0 : ¬ (F.length : Int) = 0 := by omega
              have hjmi : (((j + 1) % F.length : Nat) : Int) < (F.length : Int) := by omega
              generalize (j + 1) % F.length = jm at *
              clear hjn hFa hFb
              go_wp2_with fail
              refine (sbehind_any (c1, c2) a _ (by omega)).mono ?_
              rintro e w2 ⟨rfl, hbl⟩
              have hbe : c1 ≤ behind (c1, c2) a ∧ behind (c1, c2) a ≤ c2 := by unfold behind; split <;> simp only at * <;> omega
              have HD0 : Hid (SInD w sb L s1 axis (c1, c2) cb g F a b (segs s1.m.org F axis (c1, c2) s1.m.cur (j + 1)) (.int .i64 (behind (c1, c2) a)) w2) := Lib.hid ⟨_, _, _, hbe.1, hbe.2, rfl, dist_le hbe.1 hbe.2 hb1 hb2, HSS.out.symm, HJN.out.below hbl⟩
              clear HJN HSS m0 m1 k0 k1 hgl hcbl hbl hmod hF0 hjmi hjm hbe
              generalize behind (c1, c2) a = p0 at *
              go_wp2_with fail
              go_loopw [11] (fun p wq => SInD w sb L s1 axis (c1, c2) cb g F a b (segs s1.m.org F axis (c1, c2) s1.m.cur (j + 1)) p wq) (fun p _ => dist (c1, c2) b (intOf p).toNat)
              case atStart => exact HD0.out
              case round =>
                clear HD0
                obtain ⟨p, n, cur, hp1, hp2, rfl, hdn, hseg, hjn⟩ := hrel
                dsimp only at hp1 hp2
                by_cases hpb : p = b
                · subst hpb
                  rw [seg_end] at hseg
                  subst hseg
                  have HJE : Hid (SInC w sb L s1 axis (c1, c2) cb g F s1.m.cur (.int .i64 ((j : Int) + 1)) wr) := Lib.hid ⟨j + 1, by omega, by simp, hjn⟩
                  clear hjn
                  go_wp2
                  go_roundw
                  case rel => exact HJE.out
                  case measure => simp [intOf]; omega
                · have hpb' : ¬ (p : Int) = (b : Int) := by omega
                  obtain ⟨hst, hbe1, hbe2⟩ := dist_step (c := (c1, c2)) (b := b) (p := p) hc1 hp1 hp2 hb1 hb2 hpb
                  obtain ⟨n', rfl⟩ : ∃ n', n = n' + 1 := ⟨n - 1, by omega⟩
                  rw [seg_step hpb] at hseg
                  have hol := hjn.ma.ok.m.orgl
                  have hcl := ES1.out.2.2.2
                  simp only at hol
                  have hol2 : s1.m.org.length = s1.m.cur.length := by rw [ES1.out.1, HOK.out.orgl]; omega
                  have get1 : ∀ i, i ≤ c2 → ∃ x, s1.m.org[i]? = some x := fun i hi => ⟨_, List.getElem?_eq_getElem (by omega)⟩
                  have get2 : ∀ i, i ≤ c2 → ∃ x, cur[i]? = some x := fun i hi => ⟨_, List.getElem?_eq_getElem (by omega)⟩
                  obtain ⟨xp, hxp⟩ := get1 p hp2
                  obtain ⟨xa, hxa⟩ := get1 a ha2
                  obtain ⟨xb, hxb⟩ := get1 b hb2
                  obtain ⟨yp, hyp⟩ := get2 p hp2
                  obtain ⟨ya, hya⟩ := get2 a ha2
                  obtain ⟨yb, hyb⟩ := get2 b hb2
                  have HC := Lib.hid (sbetween_any wr sb L { s1 with m := { s1.m with cur := cur } } hjn.ma axis ha p a b xp xa xb yp ya yb hxp hxa hxb hyp hya hyb)
                  have HJN := Lib.hid hjn
                  have HST := Lib.hid hst
                  have HSG := Lib.hid hseg
                  clear hjn hst hseg hxp hxa hxb hyp hya hyb get1 get2 hol hcl hol2
                  go_wp2_with fail
                  refine HC.out.mono ?_
                  rintro e w2 ⟨rfl, hm2, hf2⟩
                  have HJ2 := Lib.hid (HJN.out.go hf2 hm2)
                  clear HC HJN hm2 hf2
                  have k0 := HJ2.out.blk.cell 0
                  have k1 := HJ2.out.blk.cell 1
                  simp only [List.getElem?_toArray, List.getElem?_cons_zero, List.getElem?_cons_succ] at k0 k1
                  have hcbl := HJ2.out.blk.lt
                  go_wp2_with fail
                  refine (sbehind_any (c1, c2) p _ (by omega)).mono ?_
                  rintro e w3 ⟨rfl, hbl⟩
                  have HJ3 := Lib.hid (HJ2.out.below hbl)
                  clear k0 k1 hcbl hbl HJ2
                  have HDN : Hid (SInD w sb L s1 axis (c1, c2) cb g F a b (segs s1.m.org F axis (c1, c2) s1.m.cur (j + 1)) (.int .i64 (behind (c1, c2) p)) w3) := Lib.hid ⟨_, n', _, hbe1, hbe2, rfl, by have := HST.out; omega, HSG.out, HJ3.out⟩
                  clear HJ3 HSG
                  generalize behind (c1, c2) p = p1 at *
                  go_wp2
                  go_roundw
                  case rel => exact HDN.out
                  case measure => have := HST.out; simp [intOf]; omega
            · have hje : j = F.length := by omega
              subst hje
              rw [← HCE.out] at hjn
              have HAE : Hid (SInA w sb L s axis (.int .i64 ((k : Int) + 1)) wr) := Lib.hid ⟨k + 1, by omega, by simp, by
                rw [HT.out, List.foldl_append]
                simp only [List.foldl_cons, List.foldl_nil]
                rw [HCK.out, ← ES1.out.2.2.1, ← ES1.out.1, ← ES1.out.2.1]
                have := hjn.ma
                rw [← HS1.out] at this ⊢
                exact this, hjn.fr⟩
              clear hjn
              go_wp2
              go_roundw
              case rel => exact HAE.out
              case measure => simp [intOf]; omega
    · clear hM hfr
      go_wp2
      go_end0
      have hM := HM.out
      rw [List.take_of_length_le (by omega)] at hM
      exact .to hM HF.out
end Go.Proofs.YtnhebmgibiomnaaGreat
namespace Go.Proofs.YtnhebmgibiomnaaGreat
open Go.RowKit Mc Go.ChangeMaps
theorem findNow_none : ∀ (es : List MapEntry) (x : Int) (i : Nat), (∀ e ∈ es, ∃ b, e.key = .int .i64 b ∧ x ≠ b) → Instr.findNow (.int .i64) (.int .i64 x) es i = some none
  | [], _, _, _ => rfl
  | e :: es, x, i, h => by
    obtain ⟨b, hb, hne⟩ := h e List.mem_cons_self
    unfold Instr.findNow
    rw [hb]
    have : Instr.sameNow (.int .i64) (.int .i64 x) (.int .i64 b) = some false := by simp [Instr.sameNow, hne]
    rw [this]
    exact findNow_none es x (i + 1) fun e' he' => h e' (List.mem_cons_of_mem _ he')
theorem findNow_some : ∀ (es : List MapEntry) (x : Int) (i j : Nat) (e : MapEntry), es[j]? = some e → e.key = .int .i64 x → (∀ j' e', j' < j → es[j']? = some e' → ∃ b, e'.key = .int .i64 b ∧ x ≠ b) → Instr.findNow (.int .i64) (.int .i64 x) es i = some (some (i + j, e.val))
  | [], _, _, _, _, h, _, _ => by simp at h
  | e0 :: es, x, i, 0, e, h, hk, _ => by
    simp only [List.getElem?_cons_zero, Option.some.injEq] at h
    subst h
    unfold Instr.findNow
    rw [hk]
    have : Instr.sameNow (.int .i64) (.int .i64 x) (.int .i64 x) = some true := by simp [Instr.sameNow]
    rw [this]
    rfl
  | e0 :: es, x, i, j + 1, e, h, hk, ho => by
    obtain ⟨b, hb, hne⟩ := ho 0 e0 (by omega) rfl
    simp only [List.getElem?_cons_succ] at h
    unfold Instr.findNow
    rw [hb]
    have : Instr.sameNow (.int .i64) (.int .i64 x) (.int .i64 b) = some false := by simp [Instr.sameNow, hne]
    rw [this]
    have := findNow_some es x (i + 1) j e h hk fun j' e' hj' he' => ho (j' + 1) e' (by omega) (by simpa using he')
    rw [show i + (j + 1) = i + 1 + j by omega]
    exact this
theorem checkKey_int {P : Program} {k : TypeId} (hk : P.underlying k = some (.int .i64)) (w : World) (em : Bool) (x : Int) : (Instr.checkKey em 10000 k (.int .i64 x)).run P w = .ok () w := by
  unfold Instr.checkKey
  simp [run_underlying hk]
theorem run_insert_new {P : Program} {w : World} {t k e : TypeId} (ht : P.underlying t = some (.map k e)) (hk : P.underlying k = some (.int .i64)) {r : Nat} {es : Array MapEntry} {clock : Nat} (hb : w.heap[r]? = some (.map es clock)) {x : Int} {v : Value}
    (hno : ∀ e ∈ es.toList, ∃ b, e.key = .int .i64 b ∧ x ≠ b) : (Instr.mapUpdate t (.map (some r)) (.int .i64 x) v).run P w = .ok () (setBlock w r (.map (es.push ⟨.int .i64 x, v, clock⟩) (clock + 1))) := by
  have h1 : (Instr.findKey k (.int .i64 x) es.toList).run P w = .ok none w := by
    unfold Instr.findKey
    simp [run_underlying hk, findNow_none _ _ _ hno]
  simp [Instr.mapUpdate, run_underlying ht, MapKept.run_getObj_map hb, checkKey_int hk, h1, MapKept.run_setObj_map _ hb, Result.andThen, setBlock]
theorem run_lookup_at {P : Program} {w : World} {t k e : TypeId} (ht : P.underlying t = some (.map k e)) (hk : P.underlying k = some (.int .i64)) {r : Nat} {es : Array MapEntry} {clock : Nat} (hb : w.heap[r]? = some (.map es clock)) {x : Int} {j : Nat} {en : MapEntry}
    (hj : es.toList[j]? = some en) (hkey : en.key = .int .i64 x) (ho : ∀ j' e', j' < j → es.toList[j']? = some e' → ∃ b, e'.key = .int .i64 b ∧ x ≠ b) : (Instr.lookup t (.map (some r)) (.int .i64 x) false).run P w = .ok en.val w := by
  have h1 : (Instr.findKey k (.int .i64 x) es.toList).run P w = .ok (some (0 + j, en.val)) w := by
    unfold Instr.findKey
    simp [run_underlying hk, findNow_some _ _ 0 _ _ hj hkey ho]
  simp [Instr.lookup, run_underlying ht, MapKept.run_getObj_map hb, checkKey_int hk, h1, Result.andThen]
theorem two_make (f : Fn) (w : World) : Calls Tryz.prog 172 #[.func f #[] #[]] w fun e w' => e = .returned (.func (.func 250) #[] #[.pointer (some ⟨w.heap.size, 0, none⟩)]) ∧ w.alloc (.cells #[.func f #[] #[]] 74) = w' := by
  go_enter Tryz.func172, Tryz.ntmps172
  go_wp2
  go_ret
  exact ⟨rfl, rfl⟩
theorem one_make (f : Fn) (w : World) : Calls Tryz.prog 179 #[.func f #[] #[]] w fun e w' => e = .returned (.func (.func 251) #[] #[.pointer (some ⟨w.heap.size, 0, none⟩)]) ∧ w.alloc (.cells #[.func f #[] #[]] 117) = w' := by
  go_enter Tryz.func179, Tryz.ntmps179
  go_wp2
  go_ret
  exact ⟨rfl, rfl⟩
def DI (w0 : World) (n : Nat) (W : World) : Prop :=
  ∃ bs, W.heap[w0.heap.size]? = some (.map (deedEs bs n).toArray n) ∧ (∀ i, 1 ≤ i → i ≤ n → DeedBox W (fun k => w0.heap.size < k ∧ k < W.heap.size) bs i) ∧ Below w0.heap.size w0 W
theorem deedEs_succ (bs : Nat → Nat) (n : Nat) : deedEs bs (n + 1) = deedEs bs n ++ [⟨.int .i64 ((n + 1 : Nat) : Int), deedV bs (n + 1), n⟩] := by
  unfold deedEs
  rw [List.range_succ, List.map_append]
  rfl
theorem deedEs_congr {bs bs' : Nat → Nat} {n : Nat} (h : ∀ i, i ≤ n → bs i = bs' i) : deedEs bs n = deedEs bs' n := by
  unfold deedEs
  refine List.map_congr_left fun i hi => ?_
  have := List.mem_range.1 hi
  unfold deedV
  rw [h (i + 1) (by omega)]
theorem deedEs_keys {bs : Nat → Nat} {n : Nat} {x : Int} (hx : (n : Int) < x) : ∀ e ∈ (deedEs bs n), ∃ b, e.key = .int .i64 b ∧ x ≠ b := by
  intro e he
  unfold deedEs at he
  obtain ⟨i, hi, rfl⟩ := List.mem_map.1 he
  have := List.mem_range.1 hi
  exact ⟨_, rfl, by omega⟩
theorem DeedBox.keep {W W' : World} {O O' : Nat → Prop} {bs bs' : Nat → Nat} {i : Nat} (h : DeedBox W O bs i) (hb : bs i = bs' i) (hk : ∀ g t cs, Blk W g t cs → Blk W' g t cs) (hO : ∀ k, O k → O' k) : DeedBox W' O' bs' i := by
  unfold DeedBox at h ⊢
  split at h
  · exact ⟨hO _ (hb ▸ h.1), hk _ _ _ (hb ▸ h.2)⟩
  · trivial
theorem blk_setBlock {W : World} {r : Nat} {es es' : Array MapEntry} {c c' : Nat} (hr : W.heap[r]? = some (.map es c)) {g : Nat} {t : TypeId} {cs : Array Value} (h : Blk W g t cs) : Blk (setBlock W r (.map es' c')) g t cs := by
  unfold Blk at h ⊢
  have hne : r ≠ g := by rintro rfl; rw [hr] at h; cases h
  simp only [setBlock]
  rw [Array.getElem?_setIfInBounds_ne hne]
  exact h
theorem DI.add {w0 W : World} {n : Nat} (h : DI w0 n W) (v : Value) (b : Nat) (hv : v = deedV (fun _ => b) (n + 1)) (hbox : DeedBox W (fun k => w0.heap.size < k ∧ k < W.heap.size) (fun _ => b) (n + 1)) :
    ∃ es, W.heap[w0.heap.size]? = some (.map es n) ∧ (∀ e ∈ es.toList, ∃ b, e.key = .int .i64 b ∧ ((n + 1 : Nat) : Int) ≠ b) ∧ DI w0 (n + 1) (setBlock W w0.heap.size (.map (es.push ⟨.int .i64 ((n + 1 : Nat) : Int), v, n⟩) (n + 1))) := by
  obtain ⟨bs, h1, h2, h3⟩ := h
  have hlt : w0.heap.size < W.heap.size := (Array.getElem?_eq_some_iff.1 h1).1
  refine ⟨_, h1, deedEs_keys (by omega), fun i => if i = n + 1 then b else bs i, ?_, ?_, ?_⟩
  · simp only [setBlock]
    rw [Array.getElem?_setIfInBounds_self_of_lt hlt, deedEs_succ, deedEs_congr (bs := fun i => if i = n + 1 then b else bs i) (bs' := bs) (fun i hi => by rw [if_neg (by omega)])]
    subst hv
    unfold deedV
    simp
  · intro i hi1 hi2
    have hz : ∀ k, (w0.heap.size < k ∧ k < W.heap.size) → (w0.heap.size < k ∧ k < (setBlock W w0.heap.size (.map ((deedEs bs n).toArray.push ⟨.int .i64 ((n + 1 : Nat) : Int), v, n⟩) (n + 1))).heap.size) := fun k hk => by simpa [setBlock] using hk
    by_cases hn : i = n + 1
    · subst hn
      exact hbox.keep (by simp) (fun g t cs hb => blk_setBlock h1 hb) hz
    · exact (h2 i hi1 (by omega)).keep (by rw [if_neg hn]) (fun g t cs hb => blk_setBlock h1 hb) hz
  · exact ⟨h3.os, h3.tape, h3.output, by simpa [setBlock] using h3.size, fun k hk => by
      simp only [setBlock]
      rw [Array.getElem?_setIfInBounds_ne (by omega)]
      exact h3.block k hk⟩
theorem DI.alloc {w0 W : World} {n : Nat} (h : DI w0 n W) (o : Obj) : DI w0 n (W.alloc o) := by
  obtain ⟨bs, h1, h2, h3⟩ := h
  have hlt : w0.heap.size < W.heap.size := (Array.getElem?_eq_some_iff.1 h1).1
  exact ⟨bs, (Below.heap_alloc W o _ hlt).trans h1, fun i a b => (h2 i a b).keep rfl (fun g t cs hb => hb.alloc o) (fun k hk => ⟨hk.1, by have := hk.2; simp; omega⟩), h3.alloc (by omega) o⟩
theorem DI.lt {w0 W : World} {n : Nat} (h : DI w0 n W) : w0.heap.size < W.heap.size := by
  obtain ⟨bs, h1, _⟩ := h
  exact (Array.getElem?_eq_some_iff.1 h1).1
theorem wpList_deed {ops : Array Oper} {rest : List Oper} {o : Oper} {a : Act} {Q : Exit → Act → World → Prop} (w0 W : World) (n : Nat) (hgd : o.guard = none) (m k x : Operand) (ho : o.op = .insert 207 m k x) (hdst : o.dst = none)
    (hm : a.eval m = .map (some w0.heap.size)) (hkv : a.eval k = .int .i64 ((n + 1 : Nat) : Int)) (v : Value) (hx : a.eval x = v) (b : Nat) (hd : DI w0 n W) (hv : v = deedV (fun _ => b) (n + 1)) (hbox : DeedBox W (fun k => w0.heap.size < k ∧ k < W.heap.size) (fun _ => b) (n + 1))
    (h : ∀ W', DI w0 (n + 1) W' → wpList Tryz.prog ops Q rest a W') : wpList Tryz.prog ops Q (o :: rest) a W := by
  refine wpList_plain hgd fun K' hK' => ?_
  obtain ⟨es, h1, h2, h3⟩ := hd.add v b hv hbox
  have h4 := h _ h3
  generalize ((n + 1 : Nat) : Int) = X at *
  unfold Oper.wp
  simp only [execOp, ho, hm, hkv, hx]
  simp [run_insert_new (P := Tryz.prog) (w := W) Tryz.underlying207 Tryz.underlying3 h1 (v := v) h2, Result.andThen]
  unfold Oper.upon
  exact hK' _ _ (by rw [hdst]; exact h4)
theorem run_makeMap {P : Program} (w : World) (t : TypeId) : Sem.run P (Instr.makeMap t none) w = .ok (.map (some w.heap.size)) (w.alloc (.map #[] 0)) := by
  unfold Instr.makeMap
  simp [newObj, Sem.run]
theorem DI.start (w : World) : DI w 0 (w.alloc (.map #[] 0)) :=
  ⟨fun _ => 0, heap_alloc_new w _, fun i h1 h2 => by omega, (Below.refl _ _).alloc (Nat.le_refl _) _⟩
theorem DI.box {w0 W : World} {n : Nat} (h : DI w0 n W) (f : Fn) (t : TypeId) : DI w0 n (W.alloc (.cells #[.func f #[] #[]] t)) ∧ (w0.heap.size < W.heap.size ∧ W.heap.size < (W.alloc (.cells #[.func f #[] #[]] t)).heap.size) ∧ Blk (W.alloc (.cells #[.func f #[] #[]] t)) W.heap.size t #[.func f #[] #[]] :=
  ⟨h.alloc _, ⟨h.lt, by simp⟩, Blk.new _ _ _⟩
def DB (w0 : World) (n b : Nat) (t : TypeId) (f : Fn) (W : World) : Prop := DI w0 n W ∧ (w0.heap.size < b ∧ b < W.heap.size) ∧ Blk W b t #[.func f #[] #[]]
theorem two_mk {w0 W : World} {n : Nat} (h : DI w0 n W) (f : Fn) : Calls Tryz.prog 172 #[.func f #[] #[]] W fun e w' => e = .returned (.func (.func 250) #[] #[.pointer (some ⟨W.heap.size, 0, none⟩)]) ∧ DB w0 n W.heap.size 74 f w' :=
  (two_make f W).mono fun _ _ hh => ⟨hh.1, by rw [← hh.2]; exact h.box f _⟩
theorem one_mk {w0 W : World} {n : Nat} (h : DI w0 n W) (f : Fn) : Calls Tryz.prog 179 #[.func f #[] #[]] W fun e w' => e = .returned (.func (.func 251) #[] #[.pointer (some ⟨W.heap.size, 0, none⟩)]) ∧ DB w0 n W.heap.size 117 f w' :=
  (one_make f W).mono fun _ _ hh => ⟨hh.1, by rw [← hh.2]; exact h.box f _⟩
attribute [local go_sem] run_makeMap
set_option maxRecDepth 100000 in
set_option maxHeartbeats 4000000 in
theorem deeds_any (w : World) : Calls Tryz.prog 99 #[] w fun e w' => e = .returned (.map (some w.heap.size)) ∧ DI w 39 w' := by
  go_enter Tryz.func99, Tryz.ntmps99
  have HD := Lib.hid (DI.start w)
  go_wp2_with (first
    | (refine wpList_deed _ _ _ rfl _ _ _ rfl rfl rfl rfl _ rfl 0 HD.out rfl trivial ?_; intro W hW; clear HD; have HD := Lib.hid hW; clear hW)
    | (refine wpList_deed _ _ _ rfl _ _ _ rfl rfl rfl rfl _ rfl _ HD.out.1 rfl HD.out.2 ?_; intro W hW; clear HD; have HD := Lib.hid hW; clear hW)
    | (go_at_call 172; refine (two_mk HD.out _).mono ?_; rintro e w9 ⟨rfl, hd⟩; clear HD; have HD := Lib.hid hd; clear hd)
    | (go_at_call 179; refine (one_mk HD.out _).mono ?_; rintro e w9 ⟨rfl, hd⟩; clear HD; have HD := Lib.hid hd; clear hd))
  go_ret
  exact ⟨rfl, HD.out⟩
end Go.Proofs.YtnhebmgibiomnaaGreat
namespace Go.Proofs.YtnhebmgibiomnaaGreat
open Go.RowKit Mc
theorem next_ended {s : St} (h : s.ended = true) : next s = (s, none) := by unfold next; rw [if_pos h]
section
variable {w w' : World} {mb : Nat} {O : Nat → Prop} {L : Lay} {s : St} {f : Fm} {r : List Fm}
theorem MaL.drewN (h : MaL w mb O L s) (n : Nat) : MaL (w.drewN n) mb O L s := h.keep (fun _ _ => rfl) (fun _ h => h) h.olt
end
end Go.Proofs.YtnhebmgibiomnaaGreat
namespace Go.Proofs.YtnhebmgibiomnaaGreat
open Go.RowKit Mc
theorem enters {f : Nat} {fn : Func} {c : Code} (hf : Tryz.prog.funcs[f]? = some fn) (hname : (fn.name == "runtime.NumGoroutine") = false) (hb : fn.body = some c) : ∀ args w, Sem.run Tryz.prog (callFunc f args) w = .ok (.enter f args) w :=
  fun args w => Go.MuLone.run_callFunc_enter hf hname hb args w
structure CanDo (n : Nat) (a : Int) (s : St) : Prop where
  st : takes n ≤ s.stack.length
  lv : s.stack.length + leaves n ≤ 32 + takes n
  jump : (n = 35 ∨ n = 36) → ∃ f r, s.frames = f :: r ∧ 0 ≤ a ∧ f.next + a.toNat ≤ f.code.length
  call : (n = 37 ∨ n = 38) → 0 ≤ a ∧ a.toNat < s.funcs.length ∧ s.frames.length ≤ 20
section
variable {w : World} {mb : Nat} {O : Nat → Prop} {L : Lay} {s : St} {a : Int} {bs : Nat → Nat}
end
end Go.Proofs.YtnhebmgibiomnaaGreat
