/- bound's look, on the ways behind effect. -/
import Derived.Test.YtgklchhgpnoliaaBoundH
import Derived.Test.YtgklchhgpnoliaaRegions
import Derived.Deep.DeepCutAuto
namespace Go.Proofs.Ytgklchhgpnoliaa
open Go.RowKit Go.Shelf
attribute [local go_sem] Oper.semAt_some

theorem calls_of_marks {P : Program} {f : FuncId} {fn : Func} {c : Code} {args : Array Value} {w : World} {R : Ending → World → Prop} (hf : P.funcs[f]? = some fn) (hb : fn.body = some c)
    (h : c.wp P (bodyPostM Fence.wide 8 P fn R) { tmps := args ++ Array.replicate (fn.ntmps - args.size) undef, defers := [] } w) : Calls P f args w R :=
  (callsIn_wide (n := 8)).1 (callsIn_of_wp_marks hf hb trivial (wpIn_wide.2 h) rfl)

theorem always_facts {n m at_ op a : Int} (hal : Bd.always n m at_ (op, a) = 0) : (Bd.jumps op = true → 0 ≤ a ∧ a ≤ n - 1 - at_) ∧ (Bd.calls op = true → 0 ≤ a ∧ a < m) := by
  unfold Bd.always at hal
  simp only at hal
  split at hal
  · simp at hal
  · split at hal
    · simp at hal
    · rename_i h2
      split at hal
      · simp at hal
      · rename_i h3
        refine ⟨fun h => ?_, fun h => ?_⟩
        · simp [h] at h2; exact h2
        · simp [h] at h3; exact h3
theorem ways_range {n at_ op a : Int} (h0 : 0 ≤ at_) (h1 : at_ < n) (hj : Bd.jumps op = true → 0 ≤ a ∧ a ≤ n - 1 - at_) : ∀ t ∈ Bd.ways at_ (op, a), 0 ≤ t ∧ t < n + 1 := by
  intro t ht
  unfold Bd.ways at ht
  simp only [List.mem_append] at ht
  rcases ht with ht | ht
  · split at ht
    · simp at ht
    · simp at ht; omega
  · split at ht
    · rename_i h; have := hj h; simp at ht; omega
    · simp at ht

theorem plCells_set (pl : List Bd.Place) : ∀ (i : Nat) (q : Bd.Place), i < pl.length → plCells (pl.set i q) = (((plCells pl).set (i * 3) (.bool q.known)).set (i * 3 + 1) (.int .i64 q.high)).set (i * 3 + 2) (.int .i64 q.steps) := by
  induction pl with
  | nil => intro i q h; simp at h
  | cons p r ih =>
    intro i q h
    cases i with
    | zero => simp [plCells]
    | succ i =>
      have := ih i q (by simpa using h)
      rw [show (i + 1) * 3 = i * 3 + 3 by omega]
      simp [plCells, this]

theorem Fr.grown {S : Nat → Prop} {w W W' : World} {row : Option Nat} (h : Fr S w W) (hg : W.grownBy W' row) (hr : ∀ r, row = some r → w.heap.size ≤ r) : Fr S w W' :=
  ⟨hg.os.trans h.os, hg.tape.trans h.tape, hg.output.trans h.output, Nat.le_trans h.size hg.size, fun k hk hs => (hg.block k (Nat.lt_of_lt_of_le hk h.size) (fun e => by have := hr k e.symm; omega)).trans (h.block k hk hs)⟩
theorem Blk.own {W W' : World} {g : Nat} {t : TypeId} {cs : Array Value} {row : Option Nat} (h : Blk W g t cs) (hg : W.grownBy W' row) (hr : ∀ r, row = some r → ∃ o : Obj, W.heap[r]? = some o ∧ o.isCells = false) : Blk W' g t cs :=
  h.grown hg (fun e => by
    obtain ⟨o, ho, hc⟩ := hr g e.symm
    unfold Blk at h
    rw [h] at ho
    injection ho with ho
    subst ho
    simp [Obj.isCells] at hc)

theorem kpB_set {X AT : Nat} (W : World) (p : Addr) (u : Value) (hX : X ≠ p.block) (hA : AT ≠ p.block) : KpB X AT W (W.setCell p u) := by
  intro b o v hb hc
  rw [World.cell?_setCell_other _ _ _ _ (fun e => by have h1 := congrArg Addr.block e; simp only at h1; rcases hb with rfl | rfl <;> omega)]
  exact hc
theorem kpB_drew {X AT : Nat} {W W' : World} (h : KpB X AT W W') : KpB X AT W W'.drew := h
theorem foldl_mark_len (e : Bd.Eff) : ∀ (l : List Int) (pl : List Bd.Place), (l.foldl (Bd.mark e) pl).length = pl.length := by
  intro l
  induction l with
  | nil => intro pl; rfl
  | cons t r ih => intro pl; rw [List.foldl_cons, ih]; simp [Bd.mark]
theorem mark_cells (pl : List Bd.Place) (tn : Nat) (h : tn < pl.length) (e : Bd.Eff) (q : Bd.Place) (hq : Bd.pat pl (tn : Int) = q) :
    ((((plCells pl).toArray.setIfInBounds (tn * 3 + 2) (.int .i64 (max q.steps e.steps))).setIfInBounds (tn * 3) (.bool true)).setIfInBounds (tn * 3 + 1) (.int .i64 e.high)) = (plCells (Bd.mark e pl tn)).toArray := by
  unfold Bd.mark
  rw [hq, show ((tn : Int)).toNat = tn by omega, plCells_set pl tn _ h]
  simp only [List.setIfInBounds_toArray]
  congr 1
  rw [List.set_comm _ _ (show tn * 3 + 2 ≠ tn * 3 by omega), List.set_comm _ _ (show tn * 3 + 2 ≠ tn * 3 + 1 by omega)]

theorem max_if (x y : Int) : (if x < y then y else x) = max x y := by omega

set_option maxRecDepth 100000 in
set_option maxHeartbeats 1000000 in
theorem look_C (P G B : Nat) (Ac Af : Option Addr) (n cc m cf : Nat) (fs : List Bd.Cost) (s : Bd.St) (at_ op a : Int) (w : World) (h : PfAt w P G B Ac Af n cc m cf fs s) (hok : Bd.Ok n s) (hfs : fs.all Bd.mayBe = true) (ha0 : 0 ≤ at_) (ha1 : at_ < n) (hn : n ≤ 1000000000000000)
    (hal : Bd.always n fs.length at_ (op, a) = 0) (hk : (Bd.pat s.pl at_).known = true) :
    Calls Try.prog 27 #[.pointer (some ⟨P, 0, none⟩), .int .i64 at_, .agg #[.int .i64 op, .int .i64 a]] w (LookPost w P G B Ac Af n cc m cf fs (Bd.look n fs s at_ (op, a))) := by
  have hokq := Bd.pat_bd hok at_
  have HALF := Lib.hid hal
  have HAL := Lib.hid (show Bd.always n m at_ (op, a) = 0 by rw [h.hm]; exact hal)
  have hPl := h.hP.lt
  have hGl := h.hG.lt
  have H := Lib.hid h
  have HP := Lib.hid h.hP
  obtain ⟨an, rfl⟩ := Int.eq_ofNat_of_zero_le ha0
  obtain ⟨q, hq⟩ : ∃ q, s.pl[an]? = some q := ⟨_, List.getElem?_eq_getElem (by have := h.hl; omega)⟩
  have hpat : Bd.pat s.pl (an : Int) = q := by unfold Bd.pat; rw [List.getD_eq_getElem?_getD]; simp [hq]
  rw [hpat] at hk hokq
  obtain ⟨g0, g1, g2⟩ := plCells_at s.pl an q hq
  have HEF := Lib.hid (fun W hb => effect_any P G B Ac Af n cc m cf fs s an op a W (h.below (w' := W) hb) q hokq hfs hal)
  have heb := Bd.effect_bd hfs hokq (op, a)
  have HPAT := Lib.hid hpat
  have hPG : P ≠ G := h.hP.ne_ h.hG (by decide)
  clear hal h hq hpat hokq
  obtain ⟨qk, qh, qs⟩ := q
  simp only at hk g0 g1 g2 HEF
  subst hk
  refine calls_of_marks Try.func27 rfl ?_
  simp only [Try.ntmps27, List.size_toArray, List.length_cons, List.length_nil, Nat.reduceAdd, Nat.reduceSub, Array.replicate_succ, Array.replicate_zero, List.push_toArray, List.append_toArray, List.nil_append, List.cons_append]
  go_wp2_with fail
  refine (always_any _ an op a _).mono ?_
  rintro e w' ⟨rfl, rfl⟩
  go_wp2_with fail
  refine (first_always (w.heap.size + 1 + 1 + 1 + 1 + 1) (w.heap.size + 1 + 1 + 1 + 1) (w.heap.size + 1 + 1) (w.heap.size + 1 + 1 + 1) P op a an Ac Af n cc m cf _ _ _ _ (Blk.new_at _ _ _ (by simp)) ((Blk.new_at _ _ _ (by simp)).alloc _) ((((Blk.new_at _ _ _ (by simp)).alloc _).alloc _).alloc _) (((Blk.new_at _ _ _ (by simp)).alloc _).alloc _) (by exact (((((HP.out.alloc _).alloc _).alloc _).alloc _).alloc _).alloc _) ha0 (by omega) hn).mono ?_
  rintro e w1 ⟨rfl, hb⟩
  have hbw : Below w.heap.size w w1 := Below.trans (by repeat (first | exact Below.refl _ _ | assumption | (refine Below.setCell ?_ (by first | omega | (simp; done) | (simp; omega)) _) | (refine Below.drew ?_) | (refine below_drewN ?_ _) | (refine Below.alloc ?_ (by first | omega | (simp; done) | (simp; omega)) _))) (hb.mono (by first | omega | (simp; done) | (simp; omega) | (simp only [World.size_alloc, World.size_drew]; omega)))
  have v0 : Blk w1 w.heap.size 78 #[.pointer (some ⟨P, 0, none⟩)] := Blk.below ((((((Blk.new_at _ _ _ (by simp)).alloc _).alloc _).alloc _).alloc _).alloc _) hb (by first | omega | (simp; done) | (simp; omega) | (simp only [World.size_alloc, World.size_drew]; omega))
  have v1 : Blk w1 (w.heap.size + 1) 25 #[.int .i64 op, .int .i64 a] := Blk.below (((((Blk.new_at _ _ _ (by simp)).alloc _).alloc _).alloc _).alloc _) hb (by first | omega | (simp; done) | (simp; omega) | (simp only [World.size_alloc, World.size_drew]; omega))
  have hz1 : w.heap.size + 6 ≤ w1.heap.size := by have := hb.size; simp at this; omega
  rw [HAL.out]
  clear hb
  have u0 : w1.cell? ⟨w.heap.size, 0, none⟩ = some (.pointer (some ⟨P, 0, none⟩)) := by rw [v0.cell]; rfl
  have x0 : w1.cell? ⟨w.heap.size + 1, 0, none⟩ = some (.int .i64 op) := by rw [v1.cell]; rfl
  have x1 : w1.cell? ⟨w.heap.size + 1, 1, none⟩ = some (.int .i64 a) := by rw [v1.cell]; rfl
  have u1 : w1.cell? ⟨P, 2, none⟩ = some (.slice (some ⟨G, 0, none⟩) (n + 1) (n + 1)) := by rw [(HP.out.below hbw hPl).cell]; rfl
  have d0 : w1.cell? ⟨G, an * 3, none⟩ = some (.bool true) := by rw [(H.out.hG.below hbw hGl).cell]; simpa using g0
  have d1 : w1.cell? ⟨G, an * 3 + 1, none⟩ = some (.int .i64 qh) := by rw [(H.out.hG.below hbw hGl).cell]; simpa using g1
  have d2 : w1.cell? ⟨G, an * 3 + 2, none⟩ = some (.int .i64 qs) := by rw [(H.out.hG.below hbw hGl).cell]; simpa using g2
  have hlt : an < n + 1 := by omega
  have y1 : w.heap.size < w1.heap.size := by omega
  have y2 : w.heap.size + 1 < w1.heap.size := by omega
  have HV0 := Lib.hid v0
  have HV1 := Lib.hid v1
  clear g0 g1 g2 v0 v1
  go_wp2_with fail
  refine (HEF.out _ (by exact hbw.alloc (by omega) _)).mono ?_
  rintro e w2 ⟨rfl, hb2⟩
  have hbw2 : Below w.heap.size w w2 := (hbw.alloc (by omega) _).trans (hb2.mono (by simp; omega))
  have v0 : Blk w2 w.heap.size 78 #[.pointer (some ⟨P, 0, none⟩)] := (HV0.out.alloc _).below hb2 (by simp; omega)
  have v1 : Blk w2 (w.heap.size + 1) 25 #[.int .i64 op, .int .i64 a] := (HV1.out.alloc _).below hb2 (by simp; omega)
  have hz2 : w.heap.size + 7 ≤ w2.heap.size := by have := hb2.size; simp at this; omega
  clear hb2 u0 x0 x1 u1 d0 d1 d2 hbw hz1 y1 y2 HV0 HV1 HEF
  have u0 : w2.cell? ⟨w.heap.size, 0, none⟩ = some (.pointer (some ⟨P, 0, none⟩)) := by rw [v0.cell]; rfl
  have x0 : w2.cell? ⟨w.heap.size + 1, 0, none⟩ = some (.int .i64 op) := by rw [v1.cell]; rfl
  have x1 : w2.cell? ⟨w.heap.size + 1, 1, none⟩ = some (.int .i64 a) := by rw [v1.cell]; rfl
  have bP := HP.out.below hbw2 hPl
  have p2 : w2.cell? ⟨P, 2, none⟩ = some (.slice (some ⟨G, 0, none⟩) (n + 1) (n + 1)) := by rw [bP.cell]; rfl
  have p3 : w2.cell? ⟨P, 3, none⟩ = some (.int .i64 s.need) := by rw [bP.cell]; rfl
  have p4 : w2.cell? ⟨P, 4, none⟩ = some (.int .i64 s.peak) := by rw [bP.cell]; rfl
  have fp3 : w2.frozen? ⟨P, 3, none⟩ = false := bP.frozen 3
  have fp4 : w2.frozen? ⟨P, 4, none⟩ = false := bP.frozen 4
  have y1 : w.heap.size < w2.heap.size := by omega
  have y2 : w.heap.size + 1 < w2.heap.size := by omega
  have y3 : P < w2.heap.size := by omega
  have y4 : P < w.heap.size := hPl
  have y5 : G < w2.heap.size := by omega
  have HV0 := Lib.hid v0
  have HV1 := Lib.hid v1
  have HBP := Lib.hid bP
  clear v0 v1 bP
  have hmx := max_if
  generalize hee : Bd.effect fs ⟨true, qh, qs⟩ (op, a) = ee at *
  have HEE := Lib.hid hee
  clear hee
  obtain ⟨en, ep, eh, es⟩ := ee
  simp only at heb
  go_upto_region 8 with fail
  go_cut [] from 35 to 54 (fun wx => Blk wx P 85 #[.slice Ac n cc, .slice Af m cf, .slice (some ⟨G, 0, none⟩) (n + 1) (n + 1), .int .i64 (max s.need en), .int .i64 (max s.peak ep)] ∧ Fr (fun k => k = P) (w2.alloc (.cells #[.int .i64 en, .int .i64 ep, .int .i64 eh, .int .i64 es] 112)) wx)
  case first =>
    rename_i J1 K1 hJ1 hK1
    have hbb := HBP.out.alloc (.cells #[.int .i64 en, .int .i64 ep, .int .i64 eh, .int .i64 es] 112)
    have HBB := Lib.hid hbb
    clear hbb HBP HV0 HV1 H HP HAL HALF HEE HPAT hok hfs hn ha0 ha1 heb hlt hbw2 hz2 hGl x0 x1 p2 y2 y4 y5
    have k1 : P ≠ w.heap.size := by omega
    have k2 : P ≠ w2.heap.size := by omega
    have k3 : w.heap.size ≠ P := by omega
    have k4 : w2.heap.size ≠ P := by omega
    have k5 : w.heap.size ≠ w2.heap.size := by omega
    have a0 : (w2.alloc (.cells #[.int .i64 en, .int .i64 ep, .int .i64 eh, .int .i64 es] 112)).cell? ⟨w.heap.size, 0, none⟩ = some (.pointer (some ⟨P, 0, none⟩)) := by rw [World.cell?_alloc_lt _ _ _ (by simp only; omega)]; exact u0
    have a1 : (w2.alloc (.cells #[.int .i64 en, .int .i64 ep, .int .i64 eh, .int .i64 es] 112)).cell? ⟨w2.heap.size, 0, none⟩ = some (.int .i64 en) := by rw [World.cell?_alloc_new]; rfl
    have a2 : (w2.alloc (.cells #[.int .i64 en, .int .i64 ep, .int .i64 eh, .int .i64 es] 112)).cell? ⟨w2.heap.size, 1, none⟩ = some (.int .i64 ep) := by rw [World.cell?_alloc_new]; rfl
    have a3 : (w2.alloc (.cells #[.int .i64 en, .int .i64 ep, .int .i64 eh, .int .i64 es] 112)).cell? ⟨P, 3, none⟩ = some (.int .i64 s.need) := by rw [HBB.out.cell]; rfl
    have a4 : (w2.alloc (.cells #[.int .i64 en, .int .i64 ep, .int .i64 eh, .int .i64 es] 112)).cell? ⟨P, 4, none⟩ = some (.int .i64 s.peak) := by rw [HBB.out.cell]; rfl
    have a5 : (w2.alloc (.cells #[.int .i64 en, .int .i64 ep, .int .i64 eh, .int .i64 es] 112)).frozen? ⟨P, 3, none⟩ = false := HBB.out.frozen 3
    have a6 : (w2.alloc (.cells #[.int .i64 en, .int .i64 ep, .int .i64 eh, .int .i64 es] 112)).frozen? ⟨P, 4, none⟩ = false := HBB.out.frozen 4
    clear u0 p3 p4 fp3 fp4
    have hbb := HBB.out
    clear HBB
    obtain ⟨WW, hWW⟩ : ∃ WW, w2.alloc (.cells #[.int .i64 en, .int .i64 ep, .int .i64 eh, .int .i64 es] 112) = WW := ⟨_, rfl⟩
    rw [hWW] at a0 a1 a2 a3 a4 a5 a6 hbb ⊢
    have HBB := Lib.hid hbb
    have HWW := Lib.hid hWW
    clear hbb hWW
    refine wp_region_noPanic ?_
    refine wp_region_held_drew (S := fun w' => w'.cell? ⟨w.heap.size, 0, none⟩ = some (.pointer (some ⟨P, 0, none⟩)) ∧ w'.cell? ⟨w2.heap.size, 0, none⟩ = some (.int .i64 en) ∧ w'.cell? ⟨w2.heap.size, 1, none⟩ = some (.int .i64 ep)) (by kernel_rfl) ⟨a0, a1, a2⟩ ?_
    intro hS
    have HJ1 := Lib.hid hJ1
    have HK1 := Lib.hid hK1
    clear hJ1 hK1
    refine wpAnyH_take (i := 0) (v := .pointer (some ⟨P, 0, none⟩)) rfl (by kernel_rfl) (by kernel_rfl) (by kernel_rfl) (fun _ _ _ h => h) (Or.inl ⟨by kernel_rfl, fun wq hq => by first | (go_simp; done) | rfl⟩) hS ?_
    refine wpAnyH_take (i := 1) (v := .pointer (some ⟨P, 0, none⟩)) rfl (by kernel_rfl) (by kernel_rfl) (by kernel_rfl) (fun _ _ _ h => h) (Or.inl ⟨by kernel_rfl, fun wq hq => by first | (go_simp; done) | rfl⟩) hS ?_
    refine wpAnyH_take (i := 2) (v := .pointer (some ⟨P, 0, none⟩)) rfl (by kernel_rfl) (by kernel_rfl) (by kernel_rfl) (fun _ _ _ h => h) (Or.inl ⟨by kernel_rfl, fun wq hq => by first | (go_simp; done) | rfl⟩) hS ?_
    refine wpAnyH_take (i := 3) (v := .pointer (some ⟨P, 0, none⟩)) rfl (by kernel_rfl) (by kernel_rfl) (by kernel_rfl) (fun _ _ _ h => h) (Or.inl ⟨by kernel_rfl, fun wq hq => by first | (go_simp; done) | rfl⟩) hS ?_
    refine wpAnyH_take (i := 4) (v := .pointer (some ⟨P, 3, none⟩)) rfl (by kernel_rfl) (by kernel_rfl) (by kernel_rfl) (fun _ _ _ h => h) (Or.inl ⟨by kernel_rfl, fun wq hq => by first | (go_simp; done) | rfl⟩) hS ?_
    refine wpAnyH_take (i := 6) (v := .pointer (some ⟨w2.heap.size, 0, none⟩)) rfl (by kernel_rfl) (by kernel_rfl) (by kernel_rfl) (fun _ _ _ h => h) (Or.inl ⟨by kernel_rfl, fun wq hq => by first | (go_simp; done) | rfl⟩) hS ?_
    refine wpAnyH_take (i := 7) (v := .int .i64 en) rfl (by kernel_rfl) (by kernel_rfl) (by kernel_rfl) (fun _ _ _ h => h) (Or.inl ⟨by kernel_rfl, fun wq hq => by first | (go_simp; done) | rfl⟩) hS ?_
    refine wpAnyH_take (i := 9) (v := .pointer (some ⟨P, 0, none⟩)) rfl (by kernel_rfl) (by kernel_rfl) (by kernel_rfl) (fun _ _ _ h => h) (Or.inl ⟨by kernel_rfl, fun wq hq => by first | (go_simp; done) | rfl⟩) hS ?_
    refine wpAnyH_take (i := 10) (v := .pointer (some ⟨P, 0, none⟩)) rfl (by kernel_rfl) (by kernel_rfl) (by kernel_rfl) (fun _ _ _ h => h) (Or.inl ⟨by kernel_rfl, fun wq hq => by first | (go_simp; done) | rfl⟩) hS ?_
    refine wpAnyH_take (i := 11) (v := .pointer (some ⟨P, 4, none⟩)) rfl (by kernel_rfl) (by kernel_rfl) (by kernel_rfl) (fun _ _ _ h => h) (Or.inl ⟨by kernel_rfl, fun wq hq => by first | (go_simp; done) | rfl⟩) hS ?_
    refine wpAnyH_take (i := 13) (v := .pointer (some ⟨w2.heap.size, 1, none⟩)) rfl (by kernel_rfl) (by kernel_rfl) (by kernel_rfl) (fun _ _ _ h => h) (Or.inl ⟨by kernel_rfl, fun wq hq => by first | (go_simp; done) | rfl⟩) hS ?_
    refine wpAnyH_take (i := 14) (v := .int .i64 ep) rfl (by kernel_rfl) (by kernel_rfl) (by kernel_rfl) (fun _ _ _ h => h) (Or.inl ⟨by kernel_rfl, fun wq hq => by first | (go_simp; done) | rfl⟩) hS ?_
    refine wpAnyH_ready (rs := [5, 12]) (by kernel_rfl) (by simp) ?_
    refine AllReadyH.cons rfl (fun K hK => ?_) (AllReadyH.cons rfl (fun K hK => ?_) AllReadyH.nil)
    · go_simp
      refine hK.out _ _ hS (fun hS => ?_)
      clear hK K
      refine wpAnyH_take (i := 8) (v := .int .i64 (max s.need en)) rfl (by kernel_rfl) (by kernel_rfl) (by kernel_rfl) (fun _ _ _ h => h) (Or.inl ⟨by kernel_rfl, fun wq hq => by first | (go_simp; done) | rfl⟩) hS ?_
      refine wpAnyH_ready (rs := [12]) (by kernel_rfl) (by simp) ?_; refine AllReadyH.cons rfl (fun K hK => ?_) AllReadyH.nil; go_simp; refine hK.out _ _ (by exact hS) (fun hS => ?_); clear hK K
      refine wpAnyH_take (i := 15) (v := .int .i64 (max s.peak ep)) rfl (by kernel_rfl) (by kernel_rfl) (by kernel_rfl) (fun _ _ _ h => h) (Or.inl ⟨by kernel_rfl, fun wq hq => by first | (go_simp; done) | rfl⟩) hS ?_
      refine wpAnyH_take (i := 16) (v := .pointer (some ⟨P, 0, none⟩)) rfl (by kernel_rfl) (by kernel_rfl) (by kernel_rfl) (fun _ _ _ h => h) (Or.inl ⟨by kernel_rfl, fun wq hq => by first | (go_simp; done) | rfl⟩) hS ?_
      refine wpAnyH_take (i := 17) (v := .pointer (some ⟨P, 3, none⟩)) rfl (by kernel_rfl) (by kernel_rfl) (by kernel_rfl) (fun _ _ _ h => h) (Or.inl ⟨by kernel_rfl, fun wq hq => by first | (go_simp; done) | rfl⟩) hS ?_
      refine wpAnyH_ready (rs := [18]) (by kernel_rfl) (by simp) ?_; refine AllReadyH.cons rfl (fun K hK => ?_) AllReadyH.nil; go_simp; refine hK.out _ _ (by exact ⟨(World.cell?_setCell_far _ _ _ _ k1).trans hS.1, (World.cell?_setCell_far _ _ _ _ k2).trans hS.2.1, (World.cell?_setCell_far _ _ _ _ k2).trans hS.2.2⟩) (fun hS => ?_); clear hK K
      refine wpAnyH_take (i := 19) (v := .pointer (some ⟨P, 0, none⟩)) rfl (by kernel_rfl) (by kernel_rfl) (by kernel_rfl) (fun _ _ _ h => h) (Or.inl ⟨by kernel_rfl, fun wq hq => by first | (go_simp; done) | rfl⟩) hS ?_
      refine wpAnyH_take (i := 20) (v := .pointer (some ⟨P, 4, none⟩)) rfl (by kernel_rfl) (by kernel_rfl) (by kernel_rfl) (fun _ _ _ h => h) (Or.inl ⟨by kernel_rfl, fun wq hq => by first | (go_simp; done) | rfl⟩) hS ?_
      refine wpAnyH_ready (rs := [21]) (by kernel_rfl) (by simp) ?_; refine AllReadyH.cons rfl (fun K hK => ?_) AllReadyH.nil; go_simp; refine hK.out _ _ (by exact ⟨(World.cell?_setCell_far _ _ _ _ k1).trans hS.1, (World.cell?_setCell_far _ _ _ _ k2).trans hS.2.1, (World.cell?_setCell_far _ _ _ _ k2).trans hS.2.2⟩) (fun hS => ?_); clear hK K
      refine wpAnyH_done (by kernel_rfl) ?_ _
      refine HK1.out _ _ (Met.intro (HJ1.out _ _ ?_))
      (repeat apply Exists.intro)
      refine ⟨?_, rfl⟩
      rw [HWW.out]
      exact ⟨by simpa using (((HBB.out.set_ 3 (.int .i64 (max s.need en))).set_ 4 (.int .i64 (max s.peak ep))).drew), (((Fr.refl (fun k => k = P) _).setCell (p := ⟨P, 3, none⟩) (.inl rfl) _).setCell (p := ⟨P, 4, none⟩) (.inl rfl) _).drew⟩
    · go_simp
      refine hK.out _ _ hS (fun hS => ?_)
      clear hK K
      refine wpAnyH_take (i := 15) (v := .int .i64 (max s.peak ep)) rfl (by kernel_rfl) (by kernel_rfl) (by kernel_rfl) (fun _ _ _ h => h) (Or.inl ⟨by kernel_rfl, fun wq hq => by first | (go_simp; done) | rfl⟩) hS ?_
      refine wpAnyH_ready (rs := [5]) (by kernel_rfl) (by simp) ?_; refine AllReadyH.cons rfl (fun K hK => ?_) AllReadyH.nil; go_simp; refine hK.out _ _ (by exact hS) (fun hS => ?_); clear hK K
      refine wpAnyH_take (i := 8) (v := .int .i64 (max s.need en)) rfl (by kernel_rfl) (by kernel_rfl) (by kernel_rfl) (fun _ _ _ h => h) (Or.inl ⟨by kernel_rfl, fun wq hq => by first | (go_simp; done) | rfl⟩) hS ?_
      refine wpAnyH_take (i := 16) (v := .pointer (some ⟨P, 0, none⟩)) rfl (by kernel_rfl) (by kernel_rfl) (by kernel_rfl) (fun _ _ _ h => h) (Or.inl ⟨by kernel_rfl, fun wq hq => by first | (go_simp; done) | rfl⟩) hS ?_
      refine wpAnyH_take (i := 17) (v := .pointer (some ⟨P, 3, none⟩)) rfl (by kernel_rfl) (by kernel_rfl) (by kernel_rfl) (fun _ _ _ h => h) (Or.inl ⟨by kernel_rfl, fun wq hq => by first | (go_simp; done) | rfl⟩) hS ?_
      refine wpAnyH_ready (rs := [18]) (by kernel_rfl) (by simp) ?_; refine AllReadyH.cons rfl (fun K hK => ?_) AllReadyH.nil; go_simp; refine hK.out _ _ (by exact ⟨(World.cell?_setCell_far _ _ _ _ k1).trans hS.1, (World.cell?_setCell_far _ _ _ _ k2).trans hS.2.1, (World.cell?_setCell_far _ _ _ _ k2).trans hS.2.2⟩) (fun hS => ?_); clear hK K
      refine wpAnyH_take (i := 19) (v := .pointer (some ⟨P, 0, none⟩)) rfl (by kernel_rfl) (by kernel_rfl) (by kernel_rfl) (fun _ _ _ h => h) (Or.inl ⟨by kernel_rfl, fun wq hq => by first | (go_simp; done) | rfl⟩) hS ?_
      refine wpAnyH_take (i := 20) (v := .pointer (some ⟨P, 4, none⟩)) rfl (by kernel_rfl) (by kernel_rfl) (by kernel_rfl) (fun _ _ _ h => h) (Or.inl ⟨by kernel_rfl, fun wq hq => by first | (go_simp; done) | rfl⟩) hS ?_
      refine wpAnyH_ready (rs := [21]) (by kernel_rfl) (by simp) ?_; refine AllReadyH.cons rfl (fun K hK => ?_) AllReadyH.nil; go_simp; refine hK.out _ _ (by exact ⟨(World.cell?_setCell_far _ _ _ _ k1).trans hS.1, (World.cell?_setCell_far _ _ _ _ k2).trans hS.2.1, (World.cell?_setCell_far _ _ _ _ k2).trans hS.2.2⟩) (fun hS => ?_); clear hK K
      refine wpAnyH_done (by kernel_rfl) ?_ _
      refine HK1.out _ _ (Met.intro (HJ1.out _ _ ?_))
      (repeat apply Exists.intro)
      refine ⟨?_, rfl⟩
      rw [HWW.out]
      exact ⟨by simpa using (((HBB.out.set_ 3 (.int .i64 (max s.need en))).set_ 4 (.int .i64 (max s.peak ep))).drew), (((Fr.refl (fun k => k = P) _).setCell (p := ⟨P, 3, none⟩) (.inl rfl) _).setCell (p := ⟨P, 4, none⟩) (.inl rfl) _).drew⟩
  case rest =>
    obtain ⟨hP3, hfr⟩ := hcut
    have hsz3 := hfr.size
    simp only [World.size_alloc] at hsz3
    have v0 : Blk wc w.heap.size 78 #[.pointer (some ⟨P, 0, none⟩)] := hfr.blk (HV0.out.alloc _) (by omega)
    have v1 : Blk wc (w.heap.size + 1) 25 #[.int .i64 op, .int .i64 a] := hfr.blk (HV1.out.alloc _) (by omega)
    have v9 : Blk wc w2.heap.size 112 #[.int .i64 en, .int .i64 ep, .int .i64 eh, .int .i64 es] := hfr.blk (Blk.new _ _ _) (by omega)
    have vG : Blk wc G 82 (plCells s.pl).toArray := hfr.blk ((H.out.hG.below hbw2 hGl).alloc _) (fun e => hPG e.symm)
    have vF : Reads wc B 4 Af m (costCells fs) := hfr.reads ((H.out.hF.below hbw2 H.out.hB).alloc (by have := H.out.hB; omega) _) (by have := H.out.hB; simp; omega) (fun k hk => by have := H.out.hBP; omega)
    have hfw : Fr (fun k => k = P ∨ k = G) w wc := ((Fr.of_below hbw2 (fun k hk _ => hk)).alloc _).trans (hfr.mono (fun k _ e => .inl e))
    have u0 : wc.cell? ⟨w.heap.size, 0, none⟩ = some (.pointer (some ⟨P, 0, none⟩)) := by rw [v0.cell]; rfl
    have x0 : wc.cell? ⟨w.heap.size + 1, 0, none⟩ = some (.int .i64 op) := by rw [v1.cell]; rfl
    have x1 : wc.cell? ⟨w.heap.size + 1, 1, none⟩ = some (.int .i64 a) := by rw [v1.cell]; rfl
    have t0 : wc.cell? ⟨w2.heap.size, 0, none⟩ = some (.int .i64 en) := by rw [v9.cell]; rfl
    have t1 : wc.cell? ⟨w2.heap.size, 1, none⟩ = some (.int .i64 ep) := by rw [v9.cell]; rfl
    have t2 : wc.cell? ⟨w2.heap.size, 2, none⟩ = some (.int .i64 eh) := by rw [v9.cell]; rfl
    have t3 : wc.cell? ⟨w2.heap.size, 3, none⟩ = some (.int .i64 es) := by rw [v9.cell]; rfl
    have HP3 := Lib.hid hP3
    have HV0 := Lib.hid v0
    have HV1 := Lib.hid v1
    have HV9 := Lib.hid v9
    have HVG := Lib.hid vG
    have HVF := Lib.hid vF
    clear hP3 v0 v1 v9 vG vF hfr HBP hmx
    go_wp2_with fail
    refine (reached_any _ an op a en ep eh es _).mono ?_
    rintro e w' ⟨rfl, rfl⟩
    obtain ⟨hj, hcl⟩ := always_facts HAL.out
    have hwr := ways_range ha0 ha1 hj
    go_wp2_with fail
    refine (first_reached (wc.heap.size + 1 + 1 + 1 + 1) (wc.heap.size + 1 + 1) wc.heap.size (wc.heap.size + 1) (wc.heap.size + 1 + 1 + 1) P G B op a an (max s.need en) (max s.peak ep) _ _ _ Af m cf (n + 1) (n + 1) fs s.pl eh es _ (Blk.new_at _ _ _ (by simp)) (((Blk.new_at _ _ _ (by simp)).alloc _).alloc _) (((((Blk.new_at _ _ _ (by simp)).alloc _).alloc _).alloc _).alloc _) ((((Blk.new_at _ _ _ (by simp)).alloc _).alloc _).alloc _) ((Blk.new_at _ _ _ (by simp)).alloc _) (by exact (((((HP3.out.alloc _).alloc _).alloc _).alloc _).alloc _))
      (by exact (((((HVF.out.alloc (by have := H.out.hB; omega) _).alloc (by have := H.out.hB; simp; omega) _).alloc (by have := H.out.hB; simp; omega) _).alloc (by have := H.out.hB; simp; omega) _).alloc (by have := H.out.hB; simp; omega) _)) (by have := H.out.hB; simp; omega) H.out.hm (by exact (((((HVG.out.alloc _).alloc _).alloc _).alloc _).alloc _)) H.out.hl (fun e => hcl (by rw [e]; rfl)) ha0 (by omega) (fun e => by have := hj e; omega) (fun t ht => by have := hwr t ht; omega) ⟨en, ep, eh, es⟩ rfl rfl).mono ?_
    rintro e w4 ⟨rfl, hb4⟩
    have hb5 : Below wc.heap.size wc w4 := Below.trans (by repeat (first | exact Below.refl _ _ | assumption | (refine Below.setCell ?_ (by first | omega | (simp; done) | (simp; omega)) _) | (refine Below.drew ?_) | (refine below_drewN ?_ _) | (refine Below.alloc ?_ (by first | omega | (simp; done) | (simp; omega)) _))) (hb4.mono (by first | omega | (simp; done) | (simp; omega) | (simp only [World.size_alloc, World.size_drew]; omega)))
    have hlook : Bd.look n fs s an (op, a) = if Bd.reached fs s.pl (max s.need en) (max s.peak ep) an (op, a) ⟨en, ep, eh, es⟩ ≠ 0 then (Bd.reached fs s.pl (max s.need en) (max s.peak ep) an (op, a) ⟨en, ep, eh, es⟩, ⟨s.pl, max s.need en, max s.peak ep⟩) else (0, ⟨(Bd.ways an (op, a)).foldl (Bd.mark ⟨en, ep, eh, es⟩) s.pl, max s.need en, max s.peak ep⟩) := by
      unfold Bd.look
      rw [if_neg (by rw [HALF.out]; simp), HPAT.out, if_neg (by simp)]
      simp only
      rw [HEE.out]
    have HLOOK := Lib.hid hlook
    have hP4 := HP3.out.below hb5 HP3.out.lt
    have hG4 := HVG.out.below hb5 HVG.out.lt
    have hF4 := HVF.out.below hb5 (by have := H.out.hB; omega)
    have v0 := HV0.out.below hb5 HV0.out.lt
    have v1 := HV1.out.below hb5 HV1.out.lt
    have v9 := HV9.out.below hb5 HV9.out.lt
    have hsz4 := hb5.size
    have hfw4 := hfw.trans (Fr.of_below (S := fun k => k = P ∨ k = G) hb5 (fun k hk _ => hk))
    clear hlook hb4 hb5 HP3 HVG HVF HV0 HV1 HV9 u0 x0 x1 t0 t1 t2 t3 hfw HPAT HALF HEE
    generalize Bd.reached fs s.pl (max s.need en) (max s.peak ep) an (op, a) ⟨en, ep, eh, es⟩ = r at *
    have HP4 := Lib.hid hP4
    have HG4 := Lib.hid hG4
    have HF4 := Lib.hid hF4
    have HV9 := Lib.hid v9
    by_cases hr : r = 0
    · subst hr
      have hlk := HLOOK.out
      rw [if_neg (by simp)] at hlk
      have HLK := Lib.hid hlk
      clear hlk HLOOK
      have u0 : w4.cell? ⟨w.heap.size, 0, none⟩ = some (.pointer (some ⟨P, 0, none⟩)) := by rw [v0.cell]; rfl
      have x0 : w4.cell? ⟨w.heap.size + 1, 0, none⟩ = some (.int .i64 op) := by rw [v1.cell]; rfl
      have x1 : w4.cell? ⟨w.heap.size + 1, 1, none⟩ = some (.int .i64 a) := by rw [v1.cell]; rfl
      have HV0 := Lib.hid v0
      clear hP4 hG4 hF4 v0 v1 v9
      go_upto_region 12 with fail
      go_cut [66] from 13 to 65 (fun t66 wx => t66 = .func (.func 62) #[] #[.pointer (some ⟨w4.heap.size + 1, 0, none⟩), .pointer (some ⟨w4.heap.size, 0, none⟩)] ∧ wx = (w4.alloc (.cells #[.int .i64 an] 3)).alloc (.cells #[.int .i64 op, .int .i64 a] 25))
      case first =>
        go_wp2_with fail
        refine (ways_any an op a _).mono ?_
        rintro e w' ⟨rfl, rfl⟩
        go_wp2_with fail
        go_meet
        exact ⟨rfl, rfl⟩
      case rest =>
        obtain ⟨rfl, hW0⟩ := hcut
        have hs0 : w4.heap.size + 2 ≤ wc.heap.size ∧ wc.heap.size ≤ w4.heap.size + 2 := by rw [hW0]; simp
        have hb0 : Below w4.heap.size w4 wc := by rw [hW0]; exact ((Below.refl _ _).alloc (Nat.le_refl _) _).alloc (by simp) _
        have f0 : Blk wc w.heap.size 78 #[.pointer (some ⟨P, 0, none⟩)] := HV0.out.below hb0 HV0.out.lt
        have f9 := HV9.out.below hb0 HV9.out.lt
        have fP := HP4.out.below hb0 HP4.out.lt
        have fG := HG4.out.below hb0 HG4.out.lt
        have fF := HF4.out.below hb0 (by have := H.out.hB; omega)
        have g4 : Blk wc w4.heap.size 3 #[.int .i64 an] := by rw [hW0]; exact (Blk.new _ _ _).alloc _
        have g5 : Blk wc (w4.heap.size + 1) 25 #[.int .i64 op, .int .i64 a] := by rw [hW0]; exact Blk.new_at _ _ _ (by simp)
        have hfw5 := hfw4.trans (Fr.of_below (S := fun k => k = P ∨ k = G) hb0 (fun k hk _ => hk))
        have HW0 := Lib.hid hW0
        clear hW0 hb0 HV0 HV9 HP4 HG4 HF4 hfw4
        go_wp2_with fail
        refine (wpIn_wide (n := 8)).1 ?_
        refine wpIn_rangeFunc_ownG (α := Way an (op, a)) rfl (by omega) (gf := 62) (lb := #[.pointer (some ⟨w4.heap.size + 1, 0, none⟩), .pointer (some ⟨w4.heap.size, 0, none⟩)]) rfl trivial (enters_of Try.func62 (by kernel_rfl) rfl)
          (ways_stops 7 (w4.heap.size + 1) w4.heap.size an op a (by omega) wc (by rw [g5.cell]; rfl) (by rw [g5.cell]; rfl) (by rw [g4.cell]; rfl) ha0 (by omega) (fun e => by have := hj e; omega)) kpB_t (fun W l o o' _ h1 h2 _ => kpB_put W l o o' h1 h2) (Below.refl _ _) (fun _ => rfl)
          (fun pre W => Blk W P 85 #[.slice Ac n cc, .slice Af m cf, .slice (some ⟨G, 0, none⟩) (n + 1) (n + 1), .int .i64 (max s.need en), .int .i64 (max s.peak ep)] ∧ Blk W G 82 (plCells ((pre.map Subtype.val).foldl (Bd.mark ⟨en, ep, eh, es⟩) s.pl)).toArray ∧ Fr (fun k => k = G) wc W)
          (fun _ _ _ => False)
          (fun pre W W' row hs hg hr => ⟨hs.1.own hg (fun r e => (hr r e).2), hs.2.1.own hg (fun r e => (hr r e).2), hs.2.2.grown hg (fun r e => (hr r e).1)⟩)
          (fun _ _ _ _ _ hs _ _ => hs)
          ⟨fP, fG, Fr.refl _ _⟩
          (fun x => { tmps := #[.pointer (some ⟨P, 0, none⟩), .int .i64 an, .agg #[.int .i64 op, .int .i64 a], .pointer (some ⟨w.heap.size, 0, none⟩), undef, .pointer (some ⟨w.heap.size + 1, 0, none⟩), .int .i64 0, .int .i64 0, .pointer (some ⟨w1.heap.size, 0, none⟩), .pointer (some ⟨w2.heap.size, 0, none⟩), .int .i64 0, .int .i64 x.1, undef, u13, u14, u15, u16, u17, u18, u19, u20, u21, u22, u23, u24, u25, u26, u27, u28, u29, u30, u31, u32, u33, u34, u35, u36, u37, u38, u39, u40, u41, u42, u43, u44, u45, u46, u47, u48, u49, u50, u51, u52, u53, u54, u55, u56, u57, u58, u59, u60, u61, u62, u63, u64, u65, .func (.func 62) #[] #[.pointer (some ⟨w4.heap.size + 1, 0, none⟩), .pointer (some ⟨w4.heap.size, 0, none⟩)], .int .i64 x.1, undef, undef, undef, undef, undef, undef, undef, undef, undef, undef, undef, undef, undef, undef, undef, undef, undef, undef, undef, undef, undef, undef, undef, undef], defers := [] }) ?assign ?body ?done ?stop
        case assign =>
          intro l x W K hK
          gi_wp2
          exact hK
        case body =>
          rintro l pre ⟨t, ht⟩ W ⟨iP, iG, iF⟩ _
          obtain ⟨t0, t1⟩ := hwr t ht
          obtain ⟨tn, rfl⟩ := Int.eq_ofNat_of_zero_le t0
          generalize hpl : (pre.map Subtype.val).foldl (Bd.mark ⟨en, ep, eh, es⟩) s.pl = pl' at iG
          have hll : pl'.length = n + 1 := by rw [← hpl, foldl_mark_len]; exact H.out.hl
          obtain ⟨q, hq⟩ : ∃ q, pl'[tn]? = some q := ⟨_, List.getElem?_eq_getElem (by omega)⟩
          have hpat : Bd.pat pl' (tn : Int) = q := by unfold Bd.pat; rw [List.getD_eq_getElem?_getD]; simp [hq]
          obtain ⟨g0, g1, g2⟩ := plCells_at pl' tn q hq
          have e0 : W.cell? ⟨w.heap.size, 0, none⟩ = some (.pointer (some ⟨P, 0, none⟩)) := by rw [(iF.blk f0 (by omega)).cell]; rfl
          have eP : W.cell? ⟨P, 2, none⟩ = some (.slice (some ⟨G, 0, none⟩) (n + 1) (n + 1)) := by rw [iP.cell]; rfl
          have b9 := iF.blk f9 (by omega)
          have e2 : W.cell? ⟨w2.heap.size, 2, none⟩ = some (.int .i64 eh) := by rw [b9.cell]; rfl
          have e3 : W.cell? ⟨w2.heap.size, 3, none⟩ = some (.int .i64 es) := by rw [b9.cell]; rfl
          have d0 : W.cell? ⟨G, tn * 3, none⟩ = some (.bool q.known) := by rw [iG.cell]; simpa using g0
          have d1 : W.cell? ⟨G, tn * 3 + 1, none⟩ = some (.int .i64 q.high) := by rw [iG.cell]; simpa using g1
          have d2 : W.cell? ⟨G, tn * 3 + 2, none⟩ = some (.int .i64 q.steps) := by rw [iG.cell]; simpa using g2
          have fz0 : W.frozen? ⟨G, tn * 3, none⟩ = false := iG.frozen _
          have fz1 : W.frozen? ⟨G, tn * 3 + 1, none⟩ = false := iG.frozen _
          have fz2 : W.frozen? ⟨G, tn * 3 + 2, none⟩ = false := iG.frozen _
          have htm : tn < n + 1 := by omega
          have hmx := max_if
          have hne1 : G ≠ w2.heap.size := by omega
          have hne2 : w2.heap.size ≠ G := by omega
          have mixed : Try.prog.follows .mixedOrders = true := by kernel_rfl
          have hwG : G < W.heap.size := iG.lt
          have hsW := iF.size
          obtain ⟨qk, qh', qs'⟩ := q
          simp only at d0 d1 d2
          have HPL := Lib.hid hpl
          have HPAT := Lib.hid hpat
          have HIG := Lib.hid iG
          have HIP := Lib.hid iP
          have HIF := Lib.hid iF
          clear p2 p3 p4 fp3 fp4 u0 x0 x1 hj hcl hwr fP fG fF f0 f9 g4 g5 b9 hpl hpat iG iP iF HV0 HV1 HW0 HP HAL hok hfs hfw5 heb hbw2 g0 g1 g2 hq y1 y2 y3 y4 y5 hs0
          gi_wp2_with fail
          refine region_in_round_held (fun w' => w'.cell? ⟨w2.heap.size, 3, none⟩ = some (.int .i64 es)) (by kernel_rfl) (by kernel_rfl) (by rintro ⟨_, _, h⟩; exact h) (by simpa using e3) ?_
          intro hS
          refine wpAnyH_take (i := 0) (v := .pointer (some ⟨G, tn * 3, none⟩)) rfl (by kernel_rfl) (by kernel_rfl) (by kernel_rfl) (fun _ _ _ h => h) (Or.inl ⟨by kernel_rfl, fun wq hq => by first | (go_simp; done) | rfl⟩) hS ?_
          refine wpAnyH_take (i := 1) (v := .pointer (some ⟨G, tn * 3, none⟩)) rfl (by kernel_rfl) (by kernel_rfl) (by kernel_rfl) (fun _ _ _ h => h) (Or.inl ⟨by kernel_rfl, fun wq hq => by first | (go_simp; done) | rfl⟩) hS ?_
          refine wpAnyH_take (i := 2) (v := .pointer (some ⟨G, tn * 3, none⟩)) rfl (by kernel_rfl) (by kernel_rfl) (by kernel_rfl) (fun _ _ _ h => h) (Or.inl ⟨by kernel_rfl, fun wq hq => by first | (go_simp; done) | rfl⟩) hS ?_
          refine wpAnyH_take (i := 3) (v := .pointer (some ⟨G, tn * 3 + 2, none⟩)) rfl (by kernel_rfl) (by kernel_rfl) (by kernel_rfl) (fun _ _ _ h => h) (Or.inl ⟨by kernel_rfl, fun wq hq => by first | (go_simp; done) | rfl⟩) hS ?_
          refine wpAnyH_take (i := 5) (v := .pointer (some ⟨w2.heap.size, 3, none⟩)) rfl (by kernel_rfl) (by kernel_rfl) (by kernel_rfl) (fun _ _ _ h => h) (Or.inl ⟨by kernel_rfl, fun wq hq => by first | (go_simp; done) | rfl⟩) hS ?_
          refine wpAnyH_take (i := 6) (v := .int .i64 es) rfl (by kernel_rfl) (by kernel_rfl) (by kernel_rfl) (fun _ _ _ h => h) (Or.inl ⟨by kernel_rfl, fun wq hq => by first | (go_simp; done) | rfl⟩) hS ?_
          refine wpAnyH_ready (rs := [4]) (by kernel_rfl) (by simp) ?_; refine AllReadyH.cons rfl (fun K hK => ?_) AllReadyH.nil; go_simp; refine hK.out _ _ (by exact hS) (fun hS => ?_); clear hK K
          refine wpAnyH_take (i := 7) (v := .int .i64 (max qs' es)) rfl (by kernel_rfl) (by kernel_rfl) (by kernel_rfl) (fun _ _ _ h => h) (Or.inl ⟨by kernel_rfl, fun wq hq => by first | (go_simp; done) | rfl⟩) hS ?_
          refine wpAnyH_take (i := 8) (v := .pointer (some ⟨G, tn * 3, none⟩)) rfl (by kernel_rfl) (by kernel_rfl) (by kernel_rfl) (fun _ _ _ h => h) (Or.inl ⟨by kernel_rfl, fun wq hq => by first | (go_simp; done) | rfl⟩) hS ?_
          refine wpAnyH_take (i := 9) (v := .pointer (some ⟨G, tn * 3 + 2, none⟩)) rfl (by kernel_rfl) (by kernel_rfl) (by kernel_rfl) (fun _ _ _ h => h) (Or.inl ⟨by kernel_rfl, fun wq hq => by first | (go_simp; done) | rfl⟩) hS ?_
          refine wpAnyH_ready (rs := [10]) (by kernel_rfl) (by simp) ?_; refine AllReadyH.cons rfl (fun K hK => ?_) AllReadyH.nil; go_simp; refine hK.out _ _ (by go_keep) (fun hS => ?_); clear hK K
          refine wpAnyH_done (by kernel_rfl) ?_ _
          gi_wp2_with fail
          refine region_in_round_held (fun w' => w'.cell? ⟨w2.heap.size, 2, none⟩ = some (.int .i64 eh)) (by kernel_rfl) (by kernel_rfl) (by rintro ⟨_, _, h⟩; exact h) (by clear hS; go_keep) ?_
          clear hS
          intro hS
          refine wpAnyH_take (i := 0) (v := .pointer (some ⟨G, tn * 3, none⟩)) rfl (by kernel_rfl) (by kernel_rfl) (by kernel_rfl) (fun _ _ _ h => h) (Or.inl ⟨by kernel_rfl, fun wq hq => by first | (go_simp; done) | rfl⟩) hS ?_
          refine wpAnyH_take (i := 1) (v := .pointer (some ⟨G, tn * 3, none⟩)) rfl (by kernel_rfl) (by kernel_rfl) (by kernel_rfl) (fun _ _ _ h => h) (Or.inl ⟨by kernel_rfl, fun wq hq => by first | (go_simp; done) | rfl⟩) hS ?_
          refine wpAnyH_take (i := 2) (v := .pointer (some ⟨w2.heap.size, 2, none⟩)) rfl (by kernel_rfl) (by kernel_rfl) (by kernel_rfl) (fun _ _ _ h => h) (Or.inl ⟨by kernel_rfl, fun wq hq => by first | (go_simp; done) | rfl⟩) hS ?_
          refine wpAnyH_take (i := 3) (v := .int .i64 eh) rfl (by kernel_rfl) (by kernel_rfl) (by kernel_rfl) (fun _ _ _ h => h) (Or.inl ⟨by kernel_rfl, fun wq hq => by first | (go_simp; done) | rfl⟩) hS ?_
          refine wpAnyH_take (i := 4) (v := .pointer (some ⟨G, tn * 3, none⟩)) rfl (by kernel_rfl) (by kernel_rfl) (by kernel_rfl) (fun _ _ _ h => h) (Or.inl ⟨by kernel_rfl, fun wq hq => by first | (go_simp; done) | rfl⟩) hS ?_
          refine wpAnyH_take (i := 5) (v := .pointer (some ⟨G, tn * 3, none⟩)) rfl (by kernel_rfl) (by kernel_rfl) (by kernel_rfl) (fun _ _ _ h => h) (Or.inl ⟨by kernel_rfl, fun wq hq => by first | (go_simp; done) | rfl⟩) hS ?_
          refine wpAnyH_ready (rs := [6]) (by kernel_rfl) (by simp) ?_; refine AllReadyH.cons rfl (fun K hK => ?_) AllReadyH.nil; go_simp; refine hK.out _ _ (by go_keep) (fun hS => ?_); clear hK K
          refine wpAnyH_take (i := 7) (v := .pointer (some ⟨G, tn * 3, none⟩)) rfl (by kernel_rfl) (by kernel_rfl) (by kernel_rfl) (fun _ _ _ h => h) (Or.inl ⟨by kernel_rfl, fun wq hq => by first | (go_simp; done) | rfl⟩) hS ?_
          refine wpAnyH_take (i := 8) (v := .pointer (some ⟨G, tn * 3 + 1, none⟩)) rfl (by kernel_rfl) (by kernel_rfl) (by kernel_rfl) (fun _ _ _ h => h) (Or.inl ⟨by kernel_rfl, fun wq hq => by first | (go_simp; done) | rfl⟩) hS ?_
          refine wpAnyH_ready (rs := [9]) (by kernel_rfl) (by simp) ?_; refine AllReadyH.cons rfl (fun K hK => ?_) AllReadyH.nil; go_simp; refine hK.out _ _ (by go_keep) (fun hS => ?_); clear hK K
          refine wpAnyH_done (by kernel_rfl) ?_ _
          gi_wp2_with fail
          refine ⟨?_, ?_, ?_, ?_, ?_⟩
          · exact (((((KeepsOthers.setCell _ _ _).trans (KeepsOthers.setCell _ _ _)).trans (KeepsOthers.setCell _ _ _)).trans (KeepsOthers.drew _)).trans (KeepsOthers.drew _)).from _
          · exact kpB_drew (kpB_drew (kpB_t (kpB_t (kpB_set _ _ _ (by simp only; omega) (by simp only; omega)) (kpB_set _ _ _ (by simp only; omega) (by simp only; omega))) (kpB_set _ _ _ (by simp only; omega) (by simp only; omega))))
          · exact ((((HIP.out.far (by exact hPG) _).far (by exact hPG) _).far (by exact hPG) _).drew).drew
          · have h1 := (((((HIG.out.set_ (tn * 3 + 2) (.int .i64 (max qs' es))).set_ (tn * 3) (.bool true)).set_ (tn * 3 + 1) (.int .i64 eh)).drew).drew)
            rw [mark_cells pl' tn (by omega) ⟨en, ep, eh, es⟩ ⟨qk, qh', qs'⟩ HPAT.out] at h1
            rw [List.map_append, List.foldl_append, HPL.out]
            exact h1
          · exact (((((HIF.out.setCell (.inl rfl) _).setCell (.inl rfl) _).setCell (.inl rfl) _).drew).drew)
        case done =>
          rintro D ys W hD hS ⟨iP, iG, iF⟩ hK
          have HS := Lib.hid hS
          clear hS
          go_wp2
          refine ⟨by simp, .inl ⟨_, _, rfl, run_takeDeferred hK, ?_⟩⟩
          have hgr := grownBy_putObj' W D (.deferred none)
          have hcl : ∀ r, some D = some r → ∃ o : Obj, W.heap[r]? = some o ∧ o.isCells = false := fun r e => by cases e; exact ⟨_, hK, rfl⟩
          have hfin := hfw5.trans ((iF.grown hgr (fun r e => by cases e; exact hD)).mono (fun k _ e => .inr e))
          rw [HLK.out]
          refine ⟨_, results_tmp rfl _ _ _, ⟨rfl, ⟨iP.own hgr hcl, ?_, ?_, ?_, H.out.hBP, H.out.hBG, H.out.hm, ?_⟩, hfin⟩⟩
          · rw [← HS.out]; exact iG.own hgr hcl
          · exact (iF.grown hgr (fun r e => by cases e; exact hD)).reads fF (by have := H.out.hB; omega) (fun k hk e => by have := H.out.hBG; omega)
          · have := hfin.size; have := H.out.hB; omega
          · rw [foldl_mark_len]; exact H.out.hl
        case stop =>
          rintro D c pre W _ _ h _
          exact h.elim
    · have hlk := HLOOK.out
      rw [if_pos hr] at hlk
      have HLK := Lib.hid hlk
      clear hlk HLOOK
      have hrb : (r != 0) = true := by simpa using hr
      clear hP4 hG4 hF4 v0 v1 v9
      go_wp2
      rw [HLK.out]
      refine ⟨_, results_tmp rfl _ _ _, ⟨rfl, ⟨HP4.out, HG4.out, HF4.out, by have := H.out.hB; omega, H.out.hBP, H.out.hBG, H.out.hm, H.out.hl⟩, hfw4⟩⟩
end Go.Proofs.Ytgklchhgpnoliaa
