/- bound's agrees: a range over the ways. -/
import Derived.Test.YtgklchhgpnoliaaBoundE
namespace Go.Proofs.Ytgklchhgpnoliaa
open Go.RowKit Go.Shelf
attribute [local go_sem] Oper.semAt_some

theorem kpB_t {X AT : Nat} : ∀ {A B C : World}, KpB X AT A B → KpB X AT B C → KpB X AT A C := fun h k b o v hb hc => k b o v hb (h b o v hb hc)
theorem kpB_put {X AT : Nat} (W : World) (l : Nat) (o o' : Obj) (hl : W.heap[l]? = some o) (hc : o.isCells = false) : KpB X AT W (W.putObj l o') := by
  intro b f v _ h
  exact cell_kept h (grownBy_putObj' W l o') (fun r e => by cases e; exact ⟨o, hl, hc⟩)
theorem kpB_below {X AT B : Nat} {W W' : World} (h : Below B W W') (hX : X < B) (hA : AT < B) : KpB X AT W W' := by
  intro b f v hb hc
  rw [h.cell (p := ⟨b, f, none⟩) (by rcases hb with rfl | rfl <;> assumption)]; exact hc

theorem ways_stops (n X AT : Nat) (at_ op a : Int) (hn : 1 ≤ n) (w : World) (hX0 : w.cell? ⟨X, 0, none⟩ = some (.int .i64 op)) (hX1 : w.cell? ⟨X, 1, none⟩ = some (.int .i64 a)) (hA : w.cell? ⟨AT, 0, none⟩ = some (.int .i64 at_))
    (b0 : 0 ≤ at_) (b1 : at_ ≤ 1000000000000000) (b2 : Bd.jumps op = true → 0 ≤ a ∧ a ≤ 1000000000000000) :
    SeqStopsK Fence.wide n Try.prog 62 #[.pointer (some ⟨X, 0, none⟩), .pointer (some ⟨AT, 0, none⟩)] (fun t : Way at_ (op, a) => #[.int .i64 t.1]) (KpB X AT) (fun ys => ys.map (·.1) = Bd.ways at_ (op, a)) (fun _ => True) 2 w := by
  intro l J Jx W hW hJ hJx hY h0
  have l1 := World.block_lt_of_cell? w _ hX0
  have l2 := World.block_lt_of_cell? w _ hA
  exact ways_in n l X AT at_ op a J Jx hn hJ hJx hY W ((hW.cell (p := ⟨X, 0, none⟩) l1).trans hX0) ((hW.cell (p := ⟨X, 1, none⟩) l1).trans hX1) ((hW.cell (p := ⟨AT, 0, none⟩) l2).trans hA) h0 b0 b1 b2

set_option maxRecDepth 100000 in
set_option maxHeartbeats 1000000 in
theorem agrees_any (P G : Nat) (c0 c1 c3 c4 : Value) (m mc : Nat) (pl : List Bd.Place) (at_ op a high : Int) (w : World) (hP : Blk w P 85 #[c0, c1, .slice (some ⟨G, 0, none⟩) m mc, c3, c4]) (hG : Blk w G 82 (plCells pl).toArray)
    (hm : pl.length = m) (b0 : 0 ≤ at_) (b1 : at_ ≤ 1000000000000000) (b2 : Bd.jumps op = true → 0 ≤ a ∧ a ≤ 1000000000000000) (hw : ∀ t ∈ Bd.ways at_ (op, a), 0 ≤ t ∧ t < m) :
    Calls Try.prog 60 #[.pointer (some ⟨P, 0, none⟩), .int .i64 at_, .agg #[.int .i64 op, .int .i64 a], .int .i64 high] w fun e w' => e = .returned (.bool (Bd.agrees pl at_ (op, a) high)) ∧ Below w.heap.size w w' := by
  refine (callsIn_wide (n := 8)).1 ?_
  refine callsIn_of_wp_marks Try.func60 rfl trivial ?_ rfl
  simp only [Try.ntmps60, List.size_toArray, List.length_cons, List.length_nil, Nat.reduceAdd, Nat.reduceSub, Array.replicate_succ, Array.replicate_zero, List.push_toArray, List.append_toArray, List.nil_append, List.cons_append]
  gi_wp2_with fail
  refine ⟨trivial, ?_⟩
  refine (callsIn_wide.2 (ways_any at_ op a _)).mono ?_
  rintro e w' ⟨rfl, rfl⟩
  gi_wp2_with fail
  have hPl := hP.lt
  have hGl := hG.lt
  obtain ⟨N, hN⟩ : ∃ N, N = w.heap.size := ⟨_, rfl⟩
  rw [← hN]
  obtain ⟨W0, hW0⟩ : ∃ W0, (((((w.alloc (.cells #[.pointer (some ⟨P, 0, none⟩)] 78)).alloc (.cells #[.int .i64 op, .int .i64 a] 25)).alloc (.cells #[.int .i64 high] 3)).alloc (.cells #[.bool false] 4)).alloc (.cells #[.int .i64 at_] 3)).alloc (.cells #[.int .i64 op, .int .i64 a] 25) = W0 := ⟨_, rfl⟩
  have hs0 : W0.heap.size = N + 6 := by rw [← hW0, hN]; simp
  have hbw : Below w.heap.size w W0 := by rw [← hW0]; exact (by repeat (first | exact Below.refl _ _ | assumption | (refine Below.setCell ?_ (by first | omega | (simp; done) | (simp; omega)) _) | (refine Below.drew ?_) | (refine below_drewN ?_ _) | (refine Below.alloc ?_ (by first | omega | (simp; done) | (simp; omega)) _)))
  have f0 : Blk W0 N 78 #[.pointer (some ⟨P, 0, none⟩)] := by rw [← hW0, hN]; exact (((((Blk.new _ _ _).alloc _).alloc _).alloc _).alloc _).alloc _
  have f2 : Blk W0 (N + 1 + 1) 3 #[.int .i64 high] := by rw [← hW0, hN]; exact (((Blk.new_at _ _ _ (by simp)).alloc _).alloc _).alloc _
  have f3 : Blk W0 (N + 1 + 1 + 1) 4 #[.bool false] := by rw [← hW0, hN]; exact ((Blk.new_at _ _ _ (by simp)).alloc _).alloc _
  have f4 : Blk W0 (N + 1 + 1 + 1 + 1) 3 #[.int .i64 at_] := by rw [← hW0, hN]; exact (Blk.new_at _ _ _ (by simp)).alloc _
  have f5 : Blk W0 (N + 1 + 1 + 1 + 1 + 1) 25 #[.int .i64 op, .int .i64 a] := by rw [← hW0, hN]; exact Blk.new_at _ _ _ (by simp)
  have fP := hP.below hbw hPl
  have fG := hG.below hbw hGl
  rw [hW0]
  have HW0 := Lib.hid hW0
  have HN := Lib.hid hN
  have hNw : w.heap.size ≤ W0.heap.size := hbw.size
  have hNN : N ≤ w.heap.size ∧ w.heap.size ≤ N := by omega
  have hSS : W0.heap.size ≤ N + 6 ∧ N + 6 ≤ W0.heap.size := by omega
  clear hW0 hN hs0
  refine wpIn_rangeFunc_ownG (α := Way at_ (op, a)) rfl (by omega) (gf := 62) (lb := #[.pointer (some ⟨N + 1 + 1 + 1 + 1 + 1, 0, none⟩), .pointer (some ⟨N + 1 + 1 + 1 + 1, 0, none⟩)]) rfl trivial (enters_of Try.func62 (by kernel_rfl) rfl)
    (ways_stops 7 (N + 1 + 1 + 1 + 1 + 1) (N + 1 + 1 + 1 + 1) at_ op a (by omega) W0 (by rw [f5.cell]; rfl) (by rw [f5.cell]; rfl) (by rw [f4.cell]; rfl) b0 b1 b2) kpB_t (fun W l o o' _ h1 h2 _ => kpB_put W l o o' h1 h2) (Below.refl _ _) (fun _ => rfl)
    (fun pre W => (∀ t ∈ pre, Bd.agree1 pl high t.1 = true) ∧ Below W0.heap.size W0 W)
    (fun c _ W => (c = .ret ∧ Bd.agrees pl at_ (op, a) high = false ∧ W.cell? ⟨N + 1 + 1 + 1, 0, none⟩ = some (.bool false)) ∧ Below w.heap.size w W)
    (OwnFrom.and (fun s A B row hs hg hr => hs) (ownFrom_below (Nat.le_refl _) (Nat.le_refl _)))
    (fun c => OwnFrom.and (fun s A B row hs hg hr => ⟨hs.1, hs.2.1, cell_kept hs.2.2 hg (fun r e => (hr r e).2)⟩) (ownFrom_below (Nat.le_refl _) (by omega)))
    ⟨by simp, Below.refl _ _⟩
    (fun x => { tmps := #[.pointer (some ⟨P, 0, none⟩), .int .i64 at_, .agg #[.int .i64 op, .int .i64 a], .int .i64 high, .pointer (some ⟨N, 0, none⟩), undef, .pointer (some ⟨N + 1, 0, none⟩), .pointer (some ⟨N + 1 + 1, 0, none⟩), .pointer (some ⟨N + 1 + 1 + 1, 0, none⟩), .int .i64 x.1, undef, .int .i64 at_, .agg #[.int .i64 op, .int .i64 a], .func (.func 62) #[] #[.pointer (some ⟨N + 1 + 1 + 1 + 1 + 1, 0, none⟩), .pointer (some ⟨N + 1 + 1 + 1 + 1, 0, none⟩)], .int .i64 x.1, undef, undef, undef, undef, undef, undef, undef, undef, undef, undef, undef, undef, undef, undef, undef], defers := [] }) ?assign ?body ?done ?stop
  case assign =>
    intro l x W K hK
    gi_wp2
    exact hK
  case body =>
    rintro l pre ⟨t, ht⟩ W ⟨hpre, hB⟩ _
    obtain ⟨t0, t1⟩ := hw t ht
    obtain ⟨tn, rfl⟩ := Int.eq_ofNat_of_zero_le t0
    obtain ⟨q, hq⟩ : ∃ q, pl[tn]? = some q := ⟨_, List.getElem?_eq_getElem (by omega)⟩
    have hpat : Bd.pat pl (tn : Int) = q := by unfold Bd.pat; rw [List.getD_eq_getElem?_getD]; simp [hq]
    have hag : Bd.agree1 pl high (tn : Int) = !(q.known && (q.high != high)) := by unfold Bd.agree1; rw [hpat]
    obtain ⟨g0, g1, g2⟩ := plCells_at pl tn q hq
    have e0 : W.cell? ⟨N, 0, none⟩ = some (.pointer (some ⟨P, 0, none⟩)) := by rw [(f0.below hB f0.lt).cell]; rfl
    have eP : W.cell? ⟨P, 2, none⟩ = some (.slice (some ⟨G, 0, none⟩) m mc) := by rw [(fP.below hB fP.lt).cell]; rfl
    have eh : W.cell? ⟨N + 1 + 1, 0, none⟩ = some (.int .i64 high) := by rw [(f2.below hB f2.lt).cell]; rfl
    have er : W.cell? ⟨N + 1 + 1 + 1, 0, none⟩ = some (.bool false) := by rw [(f3.below hB f3.lt).cell]; rfl
    have fr : W.frozen? ⟨N + 1 + 1 + 1, 0, none⟩ = false := (f3.below hB f3.lt).frozen 0
    have d0 : W.cell? ⟨G, tn * 3, none⟩ = some (.bool q.known) := by rw [(fG.below hB fG.lt).cell]; simpa using g0
    have d1 : W.cell? ⟨G, tn * 3 + 1, none⟩ = some (.int .i64 q.high) := by rw [(fG.below hB fG.lt).cell]; simpa using g1
    have d2 : W.cell? ⟨G, tn * 3 + 2, none⟩ = some (.int .i64 q.steps) := by rw [(fG.below hB fG.lt).cell]; simpa using g2
    have htm : tn < m := by omega
    have z1 : N < W.heap.size := by have := hB.size; omega
    have z2 : N + 1 + 1 < W.heap.size := by have := hB.size; omega
    have z3 : N + 1 + 1 + 1 < W.heap.size := by have := hB.size; omega
    have z4 : P < W.heap.size := by have := hB.size; omega
    have z5 : G < W.heap.size := by have := hB.size; omega
    have HAG := Lib.hid hag
    have HP := Lib.hid hpre
    clear hag hpat g0 g1 g2 hq hw hpre f0 f2 f3 f4 f5 fP fG hP hG hm b2
    obtain ⟨qk, qh, qs⟩ := q
    simp only at d0 d1 d2 HAG
    cases qk with
    | false =>
      gi_wp2
      exact ⟨(KeepsOthers.alloc _ _).from _, kpB_below ((Below.refl _ _).alloc (Nat.le_refl _) _) (by have := hB.size; omega) (by have := hB.size; omega), by
        intro t' ht'
        rcases List.mem_append.1 ht' with h | h
        · exact HP.out t' h
        · simp at h; subst h; exact HAG.out, hB.alloc hB.size _⟩
    | true =>
      by_cases hh : qh = high
      · subst hh
        gi_wp2
        exact ⟨(KeepsOthers.alloc _ _).from _, kpB_below ((Below.refl _ _).alloc (Nat.le_refl _) _) (by have := hB.size; omega) (by have := hB.size; omega), by
          intro t' ht'
          rcases List.mem_append.1 ht' with h | h
          · exact HP.out t' h
          · simp at h; subst h; rw [HAG.out]; simp, hB.alloc hB.size _⟩
      · have hne : (qh != high) = true := by simpa using hh
        gi_wp2
        refine ⟨(KeepsOthers.trans (KeepsOthers.setCell _ _ _) (KeepsOthers.alloc _ _)).from _, ⟨rfl, ?_, ?_⟩, ?_⟩
        · have h1 : Bd.agree1 pl high (tn : Int) = false := by rw [HAG.out]; simp [hh]
          unfold Bd.agrees
          rw [List.all_eq_false]
          exact ⟨_, ht, by rw [h1]; simp⟩
        · rw [World.cell?_alloc_lt _ _ _ (by simpa [World.setCell] using z3)]; exact World.cell?_setCell_same' _ _ _ (by rw [er]; rfl)
        · exact ((hbw.trans (hB.mono hNw)).setCell (by simp only; omega) _).alloc (by have := hB.size; simp [World.setCell]; omega) _
  case done =>
    rintro D ys W hD hS ⟨hpre, hB⟩ hK
    have hres : Bd.agrees pl at_ (op, a) high = true := by
      unfold Bd.agrees
      rw [← hS, List.all_eq_true]
      intro t ht
      obtain ⟨t', h1, rfl⟩ := List.mem_map.1 ht
      exact hpre t' h1
    have er : W.cell? ⟨N + 1 + 1 + 1, 0, none⟩ = some (.bool false) := by rw [(f3.below hB f3.lt).cell]; rfl
    have fr : W.frozen? ⟨N + 1 + 1 + 1, 0, none⟩ = false := (f3.below hB f3.lt).frozen 0
    have HRES := Lib.hid hres
    clear hres hpre hS f0 f2 f3 f4 f5 fP fG hP hG hm b2 hw
    gi_wp2
    have hK' := (KeepsOthers.setCell W ⟨N + 1 + 1 + 1, 0, none⟩ (.bool true)).same D _ hK rfl
    refine ⟨by simp, .inl ⟨_, _, rfl, run_takeDeferred hK', ?_⟩⟩
    have hc5 := cell_kept (World.cell?_setCell_same' W ⟨N + 1 + 1 + 1, 0, none⟩ (.bool true) (by rw [er]; rfl)) (grownBy_putObj' _ D (.deferred none)) (fun r e => by cases e; exact ⟨_, hK', rfl⟩)
    refine ⟨.bool true, ?_, by rw [HRES.out], ?_⟩
    · simp [results, Try.results60, go_sem, hc5]
    · exact ((hbw.trans (hB.mono hNw)).setCell (by simp only; omega) _).trans (belowK_b (w := w) (Nat.le_refl _) _ D _ _ (by omega) hK' rfl rfl)
  case stop =>
    rintro D c pre W hD _ ⟨⟨rfl, hag, hcr⟩, hB⟩ hK
    have HAG := Lib.hid hag
    clear hag f0 f2 f3 f4 f5 fP fG hP hG hm b2 hw
    gi_wp2
    refine ⟨by simp, .inl ⟨_, _, rfl, run_takeDeferred hK, ?_⟩⟩
    have hc5 := cell_kept hcr (grownBy_putObj' _ D (.deferred none)) (fun r e => by cases e; exact ⟨_, hK, rfl⟩)
    refine ⟨.bool false, ?_, by rw [HAG.out], ?_⟩
    · simp [results, Try.results60, go_sem, hc5]
    · exact hB.trans (belowK_b (w := w) (Nat.le_refl _) _ D _ _ (by omega) hK rfl rfl)
end Go.Proofs.Ytgklchhgpnoliaa
