/- compose.left: its contract. Expanded from XCoY.src by expand.py. -/
import Derived.Test.YtoklllbaihccnaaCoX
set_option linter.unusedVariables false
set_option linter.unusedSimpArgs false
namespace Go.Proofs.Ytoklllbaihccnaa
open Go.RowKit Go.Shelf
namespace Lf
def fuel (n : Nat) : Nat := 1002 * n
def start : St := ⟨[], fun _ => false, []⟩
def turn (gl : List Gl) (s : St) (g : Nat) : St := run gl (fuel gl.length) (enter gl.length g s)
def lefts (gl : List Gl) (i : Nat) : St := (List.range i).foldl (turn gl) start
def left (gl : List Gl) : List Int := (lefts gl gl.length).told
end Lf
/-- within left -/
structure LfW (w : World) (fv : Fv) (wv tv : Value) (s : Lf.St) (W : World) : Prop where
  m : LfM W w.heap.size (w.heap.size + 1 + 1) (w.heap.size + 1) (w.heap.size + 1 + 1 + 1) wv s
  tl : W.ownsRow w.heap.size 3 1 tv s.told.length (ints s.told)
  font : Blk W w.heap.size 32 fv.cs
  below : Below w.heap.size w W
/-! ### the least number of which something holds -/
theorem exists_least {P : Nat → Prop} : ∀ n, P n → ∃ k, P k ∧ k ≤ n ∧ ∀ j, P j → k ≤ j := by
  intro n
  induction n using Nat.strongRecOn with
  | _ n ih =>
    intro h
    by_cases hh : ∃ j, j < n ∧ P j
    · obtain ⟨j, hj, hp⟩ := hh
      obtain ⟨k, h1, h2, h3⟩ := ih j hj hp
      exact ⟨k, h1, by omega, h3⟩
    · exact ⟨n, h, Nat.le_refl _, fun j hj => Nat.le_of_not_lt fun hl => hh ⟨j, hl, hj⟩⟩
open Classical in
noncomputable def least (P : Nat → Prop) : Nat := if h : ∃ n, P n then Classical.choose (exists_least _ (Classical.choose_spec h)) else 0
theorem least_spec {P : Nat → Prop} (h : ∃ n, P n) : P (least P) := by
  unfold least
  rw [dif_pos h]
  exact (Classical.choose_spec (exists_least _ (Classical.choose_spec h))).1
theorem least_le {P : Nat → Prop} {n : Nat} (h : P n) : least P ≤ n := by
  unfold least
  rw [dif_pos ⟨n, h⟩]
  exact (Classical.choose_spec (exists_least _ (Classical.choose_spec ⟨n, h⟩))).2.2 n h
section
variable {w W W1 : World} {fv : Fv} {wv tv : Value} {s : Lf.St}
theorem LfW.grow (h : LfW w fv wv tv s W) (hg : Grow W W1) : LfW w fv wv tv s W1 := ⟨h.m.grow hg, owns_grow h.tl hg, hg.blk h.font fun x => x, h.below.trans (hg.below h.below.size)⟩
theorem LfW.tell (h : LfW w fv wv tv s W) {g : Int} {tv' : Value} (ho : W1.ownsRow w.heap.size 3 1 tv' (s.told.length + 1) (ints s.told ++ [.int .i64 g])) (hg : W.grownBy W1 tv.ownBlock) : LfW w fv wv tv' { s with told := s.told ++ [g] } W1 := by
  have hpb : ∀ g, tv.ownBlock = some g → w.heap.size ≤ g ∧ ∃ cs, Blk W g 3 cs := fun g e => ⟨(owns_block h.tl e).1, (owns_block h.tl e).2.2⟩
  have k : ∀ g t cs, Blk W g t cs → t ≠ 3 → Blk W1 g t cs := fun g t cs h ht => (hg.block g h.lt (fun e => by obtain ⟨_, cs', h'⟩ := hpb g e.symm; exact h.ne_ h' ht rfl)).trans h
  refine ⟨⟨k _ _ _ h.m.mbx (by decide), h.m.mm.keep (hg.block _ h.m.mm.lt fun e => ?_), k _ _ _ h.m.wbx (by decide), owns_grownBy h.m.row hg (apart_types h.m.row h.tl (by decide))⟩, ?_, k _ _ _ h.font (by decide), h.below.grown hg h.below.size fun g e => (hpb g e).1⟩
  · obtain ⟨_, cs, hb⟩ := hpb _ e.symm
    exact h.m.mm.mne hb rfl
  · show World.ownsRow _ _ _ _ _ (s.told ++ [g]).length (ints (s.told ++ [g]))
    rw [show ints (s.told ++ [g]) = ints s.told ++ [.int .i64 g] by simp [ints], List.length_append, List.length_singleton]
    exact ho
theorem owns_takeN {base n k c size : Nat} {A : Option Addr} {t : TypeId} {xs : List Value} (h : W.ownsRow base t size (.slice A n c) n xs) (hk : k ≤ n) (h0 : 0 < n) : W.ownsRow base t size (.slice A k c) k (xs.take (k * size)) := by
  rcases h.2 with ⟨_, e⟩ | ⟨g, cap, cur, hv, hb, hh, h1, h2, h3, h4⟩
  · omega
  · injection hv with e1 e2 e3
    subst e1; subst e3
    have hm := Nat.mul_le_mul_right size hk
    refine ⟨by have := h.1; rw [List.length_take]; omega, .inr ⟨g, c, cur, rfl, hb, hh, by omega, h2, h3, ?_⟩⟩
    rw [← h4, List.take_take]
    congr 1
    omega
theorem stops_len (l : List (Nat × Nat)) : (stops l).length = l.length * 2 := by
  induction l with
  | nil => rfl
  | cons a l ih => simp only [stops, List.flatMap_cons, List.length_append, List.length_cons, List.length_nil] at ih ⊢; omega
theorem stops_app (l l' : List (Nat × Nat)) : stops (l ++ l') = stops l ++ stops l' := by simp [stops]
theorem LfW.pop (h : LfW w fv wv tv s W) {A : Option Addr} {n c : Nat} {l : List (Nat × Nat)} {a : Nat × Nat} (hw : wv = .slice A (n + 1) c) (hl : s.way = l ++ [a]) (hn : l.length = n) :
    LfW w fv (.slice A n c) tv { s with way := l } (W.setCell ⟨w.heap.size + 1 + 1 + 1, 0, none⟩ (.slice A n c)) := by
  subst hw
  have hb := h.m.wbx
  refine ⟨⟨h.m.mbx.far (p := ⟨w.heap.size + 1 + 1 + 1, 0, none⟩) (by simp) _, h.m.mm.keep (Below.heap_setCell _ _ _ _ (by simp only; omega)), ?_, ?_⟩, owns_set h.tl hb (by decide) 0 _, h.font.far (p := ⟨w.heap.size + 1 + 1 + 1, 0, none⟩) (by simp only; omega) _, h.below.trans ⟨rfl, rfl, rfl, by simp, fun j hj => Below.heap_setCell _ _ _ _ (by simp only; omega)⟩⟩
  · have := hb.set_ 0 (.slice A n c)
    simpa using this
  · have hr := h.m.row
    rw [hl, List.length_append, List.length_singleton, hn] at hr
    have h2 := owns_takeN hr (k := n) (by omega) (by omega)
    rw [stops_app, List.take_append_of_le_length (by rw [stops_len, hn]; omega), List.take_of_length_le (by rw [stops_len, hn]; omega)] at h2
    show World.ownsRow _ _ _ _ _ l.length (stops l)
    rw [hn]
    exact owns_set h2 hb (by decide) 0 _
theorem LfW.look (h : LfW w fv wv tv s W) {rb n c k g : Nat} {l : List (Nat × Nat)} (hw : wv = .slice (some ⟨rb, 0, none⟩) (n + 1) c) (hl : s.way = l ++ [(g, k)]) (hn : l.length = n) :
    LfW w fv wv tv { s with way := l ++ [(g, k + 1)] } (W.setCell ⟨rb, n * 2 + 1, none⟩ (.int .i64 ((k : Int) + 1))) := by
  subst hw
  have hr := h.m.row
  rw [hl, List.length_append, List.length_singleton, hn] at hr
  obtain ⟨hb1, _, cs, hbk⟩ := owns_block hr rfl
  have hb1' : w.heap.size ≤ rb := hb1
  refine ⟨⟨h.m.mbx.far (p := ⟨rb, n * 2 + 1, none⟩) (h.m.mbx.ne_ hbk (by decide)) _, h.m.mm.keep (Below.heap_setCell _ _ _ _ fun e => h.m.mm.mne hbk e.symm), h.m.wbx.far (p := ⟨rb, n * 2 + 1, none⟩) (h.m.wbx.ne_ hbk (by decide)) _, ?_⟩, owns_set h.tl hbk (by decide) _ _, h.font.far (p := ⟨rb, n * 2 + 1, none⟩) (h.font.ne_ hbk (by decide)) _, h.below.trans ⟨rfl, rfl, rfl, by simp, fun j hj => Below.heap_setCell _ _ _ _ (by simp only; omega)⟩⟩
  have h2 := owns_setRow hr (n * 2 + 1) (.int .i64 ((k : Int) + 1))
  have e : (stops (l ++ [(g, k)])).set (n * 2 + 1) (.int .i64 ((k : Int) + 1)) = stops (l ++ [(g, k + 1)]) := by
    rw [stops_app, stops_app, List.set_append_right _ _ (by rw [stops_len, hn]; omega), stops_len, hn]
    rw [show n * 2 + 1 - n * 2 = 1 by omega]
    simp [stops]
  rw [e] at h2
  show World.ownsRow _ _ _ _ _ (l ++ [(g, k + 1)]).length (stops (l ++ [(g, k + 1)]))
  rw [List.length_append, List.length_singleton, hn]
  exact h2
theorem LfW.entered (h : LfW w fv wv tv s W) {wv' : Value} {s' : Lf.St} (hm : LfM W1 w.heap.size (w.heap.size + 1 + 1) (w.heap.size + 1) (w.heap.size + 1 + 1 + 1) wv' s') (ht : s'.told = s.told) (hF : Fr (lfS (w.heap.size + 1) (w.heap.size + 1 + 1 + 1) wv) W W1) : LfW w fv wv' tv s' W1 := by
  have hwb : ∀ g, wv.ownBlock = some g → w.heap.size ≤ g ∧ ∃ cs, Blk W g 128 cs := fun g e => ⟨(owns_block h.m.row e).1, (owns_block h.m.row e).2.2⟩
  have k : ∀ g t cs, Blk W g t cs → t ≠ 126 → t ≠ 128 → Blk W1 g t cs := fun g t cs hb h1 h2 => hF.blk hb fun e => by
    rcases e with e | e | e
    · exact h.m.mm.mne hb e
    · exact (hb.ne_ h.m.wbx h1) e
    · obtain ⟨_, cs', h'⟩ := hwb g e; exact hb.ne_ h' h2 rfl
  refine ⟨hm, ?_, k _ _ _ h.font (by decide) (by decide), h.below.trans (hF.below h.below.size fun j hj e => ?_)⟩
  · rw [ht]
    exact owns_keep h.tl fun g e => by
      obtain ⟨_, _, cs, hb⟩ := owns_block h.tl e
      rw [show W1.heap[g]? = _ from k g _ _ hb (by decide) (by decide)]; exact hb.symm
  · rcases e with e | e | e
    · omega
    · omega
    · have := (hwb j e).1; omega
end
namespace Lf
theorem enter_told (n : Nat) (x : Int) (s : St) : (enter n x s).told = s.told := by unfold enter; split <;> rfl
theorem unmet_le {n : Nat} {met : Int → Bool} {x : Nat} (hx : x < n) (hm : met x = false) : ((List.range n).filter fun g : Nat => !(upd met (x : Int) true) g).length + 1 ≤ ((List.range n).filter fun g : Nat => !met g).length := by
  have := Wk.rest_mark (n := n) (s := ⟨met, [], []⟩) hx hm
  exact this
theorem sum_app (l : List Nat) (a : Nat) : (l ++ [a]).foldl (· + ·) 0 = l.foldl (· + ·) 0 + a := by simp [List.foldl_append]
def ok (gl : List Gl) (s : St) : Prop := ∀ a ∈ s.way, a.1 < gl.length ∧ a.2 ≤ (raw gl a.1).length
theorem enter_todo {gl : List Gl} (hp : ∀ g, (raw gl g).length ≤ 1000) (x : Int) (s : St) : todo gl (enter gl.length x s) ≤ todo gl s ∧ (ok gl s → ok gl (enter gl.length x s)) := by
  unfold enter
  split
  · rename_i h
    have hx : 0 ≤ x ∧ x < gl.length := by simpa [thereB] using h.1
    obtain ⟨n, rfl⟩ := Int.eq_ofNat_of_zero_le hx.1
    have h2 := unmet_le (n := gl.length) (by omega) h.2
    refine ⟨?_, fun hok a ha => ?_⟩
    · unfold todo
      simp only [List.map_append, List.map_cons, List.map_nil]
      rw [sum_app]
      have := hp n
      simp only [Int.toNat_natCast]
      omega
    · simp only [List.mem_append, List.mem_singleton] at ha
      rcases ha with ha | rfl
      · exact hok a ha
      · simp only [Int.toNat_natCast]
        exact ⟨by omega, Nat.zero_le _⟩
  · exact ⟨Nat.le_refl _, fun h => h⟩
theorem step_todo {gl : List Gl} (hp : ∀ g, (raw gl g).length ≤ 1000) {s : St} {l : List (Nat × Nat)} {g k : Nat} (hl : s.way = l ++ [(g, k)]) (hok : ok gl s) :
    todo gl (step gl s g k) + 1 ≤ todo gl s ∧ ok gl (step gl s g k) ∧ (step gl s g k).told.length + todo gl (step gl s g k) ≤ s.told.length + todo gl s := by
  have ha := hok (g, k) (by rw [hl]; simp)
  simp only at ha
  have e0 : todo gl s = (l.map fun a => (raw gl a.1).length + 1 - a.2).foldl (· + ·) 0 + ((raw gl g).length + 1 - k) + 1002 * ((List.range gl.length).filter fun g : Nat => !s.met g).length := by
    unfold todo
    rw [hl, List.map_append, List.map_cons, List.map_nil, sum_app]
  unfold step
  have hd : s.way.dropLast = l := by rw [hl]; simp
  rw [hd]
  split
  · rename_i e
    refine ⟨?_, fun a ha => hok a (by rw [hl]; exact List.mem_append_left _ ha), ?_⟩
    · rw [e0]; unfold todo; simp only; omega
    · rw [e0]; unfold todo; simp only [List.length_append, List.length_singleton]; omega
  · rename_i e
    obtain ⟨h1, h2⟩ := enter_todo hp ((raw gl g)[k]?.map (·.1)).get! { s with way := l ++ [(g, k + 1)] }
    have e1 : todo gl { s with way := l ++ [(g, k + 1)] } + 1 = todo gl s := by
      rw [e0]
      unfold todo
      simp only [List.map_append, List.map_cons, List.map_nil]
      rw [sum_app]
      omega
    refine ⟨by omega, h2 fun a ha => ?_, by rw [enter_told]; simp only; omega⟩
    simp only [List.mem_append, List.mem_singleton] at ha
    rcases ha with ha | rfl
    · exact hok a (by rw [hl]; exact List.mem_append_left _ ha)
    · exact ⟨ha.1, by simp only; omega⟩
theorem way_le {gl : List Gl} {s : St} (hok : ok gl s) : s.way.length ≤ todo gl s := by
  have : ∀ (l : List (Nat × Nat)), (∀ a ∈ l, a.1 < gl.length ∧ a.2 ≤ (raw gl a.1).length) → ∀ z, z + l.length ≤ (l.map fun a => (raw gl a.1).length + 1 - a.2).foldl (· + ·) z := by
    intro l
    induction l with
    | nil => intro _ z; exact Nat.le_refl _
    | cons a l ih =>
      intro h z
      have h1 := h a List.mem_cons_self
      have h2 := ih (fun b hb => h b (List.mem_cons_of_mem _ hb)) (z + ((raw gl a.1).length + 1 - a.2))
      rw [List.map_cons, List.foldl_cons, List.length_cons]
      omega
  have h := this s.way hok 0
  unfold todo
  omega
theorem run_nil {gl : List Gl} {s : St} (h : s.way = []) : ∀ f, run gl f s = s
  | 0 => rfl
  | f + 1 => by unfold run; rw [h]; rfl
theorem run_snoc {gl : List Gl} {s : St} {l : List (Nat × Nat)} {g k : Nat} (h : s.way = l ++ [(g, k)]) (f : Nat) : run gl (f + 1) s = run gl f (step gl s g k) := by
  conv => lhs; unfold run
  rw [h]
  simp
end Lf
/-- the inner loop: f is how far it goes at most -/
def LfI (w : World) (fv : Fv) (gl : List Gl) (R : Lf.St) (f : Nat) (tv : Value) (wr : World) : Prop :=
  ∃ (wv : Value) (s : Lf.St), LfW w fv wv tv s wr ∧ Lf.run gl f s = R ∧ Lf.todo gl s ≤ f ∧ Lf.ok gl s ∧ s.told.length + Lf.todo gl s ≤ 1002 * gl.length
theorem LfI.intro {w W : World} {fv : Fv} {gl : List Gl} {R s s' : Lf.St} {f' g kk : Nat} {wv tv : Value} (h : LfW w fv wv tv s' W) (es : Lf.step gl s g kk = s') (hr : Lf.run gl f' (Lf.step gl s g kk) = R)
    (hst : Lf.todo gl (Lf.step gl s g kk) + 1 ≤ Lf.todo gl s ∧ Lf.ok gl (Lf.step gl s g kk) ∧ (Lf.step gl s g kk).told.length + Lf.todo gl (Lf.step gl s g kk) ≤ s.told.length + Lf.todo gl s) (ht : Lf.todo gl s ≤ f' + 1) (hs : s.told.length + Lf.todo gl s ≤ 1002 * gl.length) : LfI w fv gl R f' tv W := by
  subst es
  exact ⟨wv, _, h, hr, by omega, hst.2.1, by omega⟩
set_option maxRecDepth 100000 in
set_option maxHeartbeats 4000000 in
theorem left_any (fv : Fv) (gl : List Gl) (w : World) (hv : fv.n = gl.length) (hf : FAt w w.heap.size fv.A gl) (h12 : gl.length ≤ 12) (h1 : fv.One) :
    Calls Try.prog 42 #[.agg fv.cs] w fun e w' => ∃ tv, e = .returned tv ∧ w'.ownsRow w.heap.size 3 1 tv (Lf.left gl).length (ints (Lf.left gl)) ∧ Below w.heap.size w w' := by
  have HONE := Lib.hid h1
  obtain ⟨fu, fA, fn, fc, d2, d3, d4, d5, d6, d7, d8⟩ := fv
  obtain ⟨⟨xu, k0⟩, ⟨A2, n2, c2, k2⟩, ⟨A3, n3, c3, k3⟩, ⟨A4, n4, c4, k4⟩, ⟨A5, n5, c5, k5⟩, ⟨A6, n6, c6, k6⟩, ⟨A7, n7, c7, k7⟩, ⟨A8, n8, c8, k8⟩⟩ := h1
  simp only at k0 k2 k3 k4 k5 k6 k7 k8 hf hv
  subst k0 k2 k3 k4 k5 k6 k7 k8
  have HF := Lib.hid hf
  have HV := Lib.hid hv
  have hfn : fn ≤ 12 := by omega
  clear hf hv
  have hmm := @run_makeMap Try.prog
  go_enter Try.func42, Try.ntmps42
  have hp : ∀ g, (Lf.raw gl g).length ≤ 1000 := fun g => by
    unfold Lf.raw
    cases hg : gl[g]? with
    | none => simp
    | some gg => obtain ⟨_, _, _, _, _, _, _, _, _, h1, _⟩ := HF.out.parts hg; simpa using h1
  have HP := Lib.hid hp
  clear hp
  go_wp2_with fail
  go_loopw [3, 15] (fun tv i wr => ∃ (k : Nat) (wv : Value), k ≤ fn ∧ i = .int .i64 k ∧ LfW w ⟨.int .i64 xu, fA, fn, fc, .slice A2 n2 c2, .slice A3 n3 c3, .slice A4 n4 c4, .slice A5 n5 c5, .slice A6 n6 c6, .slice A7 n7 c7, .slice A8 n8 c8⟩ wv tv (Lf.lefts gl k) wr ∧ (Lf.lefts gl k).way = [] ∧ Lf.ok gl (Lf.lefts gl k) ∧ (Lf.lefts gl k).told.length + Lf.todo gl (Lf.lefts gl k) ≤ 1002 * gl.length) (fun _ i _ => fn - (intOf i).toNat)
  case atStart =>
    refine ⟨0, .slice none 0 0, Nat.zero_le _, rfl, ⟨⟨Blk.new_at _ _ _ (by simp) |>.alloc _, ?_, Blk.new_at _ _ _ (by simp), owns_nil _ _ _ _⟩, owns_nil _ _ _ _, (((Blk.new _ _ _).alloc _).alloc _).alloc _, ((((Below.refl _ _).alloc (Nat.le_refl _) _).alloc (by simp) _).alloc (by simp; omega) _).alloc (by simp; omega) _⟩, rfl, fun a ha => (by cases ha), ?_⟩
    · obtain ⟨f, h1, h2⟩ := BMap.new_at (w.alloc (.cells (Fv.cs ⟨.int .i64 xu, fA, fn, fc, .slice A2 n2 c2, .slice A3 n3 c3, .slice A4 n4 c4, .slice A5 n5 c5, .slice A6 n6 c6, .slice A7 n7 c7, .slice A8 n8 c8⟩) 32)) (b := w.heap.size + 1) (by simp)
      exact ⟨f, (h1.alloc _).alloc _, h2⟩
    · have := List.length_filter_le (fun g : Nat => !(Lf.lefts gl 0).met g) (List.range gl.length)
      rw [List.length_range] at this
      simp only [Lf.todo, Lf.lefts, List.range_zero, List.foldl_nil, Lf.start, List.map_nil, List.length_nil] at this ⊢
      omega
  case round =>
    obtain ⟨k, wv, hk, rfl, hW, hway, hok, hsum⟩ := hrel
    by_cases hlt : k < fn
    · have hW' := hW
      obtain ⟨s0, hs0⟩ : ∃ s0, Lf.lefts gl k = s0 := ⟨_, rfl⟩
      rw [hs0] at hW hW' hok hsum
      have HW := Lib.hid hW
      have HOK := Lib.hid hok
      have HSUM := Lib.hid hsum
      have HS0 := Lib.hid hs0
      clear hW hW' hway hok hsum hs0
      go_wp2_with fail
      refine (enter_any ⟨.int .i64 xu, fA, fn, fc, .slice A2 n2 c2, .slice A3 n3 c3, .slice A4 n4 c4, .slice A5 n5 c5, .slice A6 n6 c6, .slice A7 n7 c7, .slice A8 n8 c8⟩ gl w.heap.size (w.heap.size + 1 + 1) (w.heap.size + 1) (w.heap.size + 1 + 1 + 1) w.heap.size wv k s0 wr HV.out HW.out.font HONE.out (by have := HV.out; omega) (by unfold I64; omega) HW.out.m (by have := Lf.way_le HOK.out; have := HSUM.out; have := HV.out; omega) HW.out.below.size).mono ?_
      rintro e W1 ⟨rfl, wv1, hm1, hF1, _⟩
      have hW1 := HW.out.entered hm1 (Lf.enter_told _ _ _) hF1
      have het := Lf.enter_todo HP.out (k : Int) s0
      have hI1 : LfI w ⟨.int .i64 xu, fA, fn, fc, .slice A2 n2 c2, .slice A3 n3 c3, .slice A4 n4 c4, .slice A5 n5 c5, .slice A6 n6 c6, .slice A7 n7 c7, .slice A8 n8 c8⟩ gl (Lf.turn gl s0 k) (Lf.fuel gl.length) u3 W1 := ⟨wv1, _, hW1, rfl, by have := HSUM.out; have := het.1; unfold Lf.fuel; omega, het.2 HOK.out, by rw [Lf.enter_told]; have := HSUM.out; have := het.1; omega⟩
      have HI1 := Lib.hid hI1
      obtain ⟨R, hR⟩ : ∃ R, Lf.turn gl s0 k = R := ⟨_, rfl⟩
      have HR := Lib.hid hR
      rw [hR] at HI1
      clear hm1 hF1 hW1 het hI1 hR HW
      go_wp2_with fail
      go_loopw [3] (fun tv wr => ∃ f, LfI w ⟨.int .i64 xu, fA, fn, fc, .slice A2 n2 c2, .slice A3 n3 c3, .slice A4 n4 c4, .slice A5 n5 c5, .slice A6 n6 c6, .slice A7 n7 c7, .slice A8 n8 c8⟩ gl R f tv wr) (fun tv wr => least fun f => LfI w ⟨.int .i64 xu, fA, fn, fc, .slice A2 n2 c2, .slice A3 n3 c3, .slice A4 n4 c4, .slice A5 n5 c5, .slice A6 n6 c6, .slice A7 n7 c7, .slice A8 n8 c8⟩ gl R f tv wr)
      case atStart => exact ⟨_, HI1.out⟩
      case round =>
        have hI := least_spec hrel
        obtain ⟨f, hf⟩ : ∃ f, (least fun f => LfI w ⟨.int .i64 xu, fA, fn, fc, .slice A2 n2 c2, .slice A3 n3 c3, .slice A4 n4 c4, .slice A5 n5 c5, .slice A6 n6 c6, .slice A7 n7 c7, .slice A8 n8 c8⟩ gl R f u3 wr) = f := ⟨_, rfl⟩
        rw [hf] at hI
        obtain ⟨wv2, s, hW2, hrun, htodo, hok2, hsum2⟩ := hI
        obtain ⟨vA, vc, rfl, hvc, _⟩ := owns_form hW2.m.row
        obtain ⟨tA, tc, rfl, htc, _⟩ := owns_form hW2.tl
        have b0 := hW2.m.wbx.cell 0
        have bl := hW2.m.wbx.lt
        simp only [List.getElem?_toArray, List.getElem?_cons_zero] at b0
        have HF2 := Lib.hid hf
        have HRUN := Lib.hid hrun
        have HTODO := Lib.hid htodo
        have HOK2 := Lib.hid hok2
        have HSUM2 := Lib.hid hsum2
        have HREL := Lib.hid hrel
        rcases List.eq_nil_or_concat s.way with hw | ⟨l, ⟨g, kk⟩, hw⟩
        · have hsR : s = R := by rw [← hrun]; exact (Lf.run_nil hw f).symm
          have hwl : s.way.length = 0 := by rw [hw]; rfl
          rw [hwl] at b0 hvc
          have HW2 := Lib.hid hW2
          have HSR := Lib.hid hsR
          have HWW := Lib.hid hw
          clear hW2 hrun htodo hok2 hsum2 hrel hf hsR hw hwl
          go_wp2_with fail
          go_roundw
          case rel =>
            have e : Lf.lefts gl (k + 1) = s := by
              rw [HSR.out, ← HR.out, ← HS0.out]
              unfold Lf.lefts
              rw [List.range_succ, List.foldl_append]
              rfl
            exact ⟨k + 1, _, by omega, by go_num, by rw [e]; exact HW2.out, by rw [e]; exact HWW.out, by rw [e]; exact HOK2.out, by rw [e]; exact HSUM2.out⟩
          case measure => simp [intOf]; omega
        · obtain ⟨n, hn⟩ : ∃ n, l.length = n := ⟨_, rfl⟩
          have hw : s.way = l ++ [(g, kk)] := by rw [hw]; simp
          have hwl : s.way.length = n + 1 := by rw [hw]; simp [hn]
          have hrow := hW2.m.row
          rw [hwl] at hrow b0 hvc hW2
          rw [hw, stops_app] at hrow
          obtain ⟨rb, c, hv, _, hrb, hrl, hcell⟩ := owns_at hrow (by omega)
          injection hv with hv1 hv2 hv3
          subst hv1
          clear hv2 hv3
          have z0 := hcell (n * 2) (.int .i64 g) (by rw [List.getElem?_append_right (by rw [stops_len, hn]; omega), stops_len, hn, Nat.sub_self]; rfl)
          have z1 := hcell (n * 2 + 1) (.int .i64 kk) (by rw [List.getElem?_append_right (by rw [stops_len, hn]; omega), stops_len, hn, show n * 2 + 1 - n * 2 = 1 by omega]; rfl)
          obtain ⟨_, _, cs, hcs⟩ := owns_block hrow rfl
          have zf := hcs.frozen (n * 2 + 1)
          have hog := hok2 (g, kk) (by rw [hw]; simp)
          simp only at hog
          obtain ⟨gg, hgg⟩ : ∃ gg, gl[g]? = some gg := ⟨_, List.getElem?_eq_getElem hog.1⟩
          obtain ⟨b, off, qA, qc, hA, hb, hc5, hqc, hq, hql, hqi⟩ := HF.out.parts hgg
          have hraw : Lf.raw gl g = gg.parts := by unfold Lf.raw; rw [hgg]; rfl
          rw [hraw] at hog
          have q5 := (hW2.below.cell (p := ⟨b, off + g * 9 + 5, none⟩) (by simpa using hb)).trans hc5
          have x1 := hW2.font.cell 1
          have xl := hW2.font.lt
          simp only [List.getElem?_toArray, List.getElem?_cons_zero, List.getElem?_cons_succ] at x1
          have hst := Lf.step_todo HP.out hw hok2
          have hnl : n ≤ 100000 := by have := Lf.way_le hok2; have := HV.out; omega
          obtain ⟨f', rfl⟩ : ∃ f', f = f' + 1 := ⟨f - 1, by have := hst.1; omega⟩
          rw [Lf.run_snoc hw] at hrun
          have hbb : b < wr.heap.size := by have := hW2.below.size; omega
          have hgn : g < fn := by have := HV.out; omega
          subst hA
          obtain ⟨pl, hpl⟩ : ∃ pl, pl = gg.parts.length := ⟨_, rfl⟩
          rw [← hpl] at q5 hqc hq hql hog
          have zf' : wr.frozen? ⟨rb, n * 2 + 1, none⟩ = false := zf
          have HW2 := Lib.hid hW2
          have HST := Lib.hid hst
          have HWW := Lib.hid hw
          have HRUN2 := Lib.hid hrun
          have HHN := Lib.hid hn
          have HRAW := Lib.hid hraw
          have HQ := Lib.hid hq
          have HQI := Lib.hid hqi
          have HPL := Lib.hid hpl
          have HGG := Lib.hid hgg
          have HX1 := Lib.hid x1
          have hkk := hog.2
          have hkr : (kk : Int) ≤ 1000 := by omega
          clear hW2 hrun htodo hok2 hsum2 hrel hf hw hwl hrow hcell hcs zf hst hn hraw hq hqi hpl hgg hb hc5 hog
          by_cases hke : kk = pl
          · subst hke
            go_wp2_with fail
            go_quiet (fail)
            have HW3 := Lib.hid (HW2.out.grow ((Fr.refl _ wr).drewN nq))
            have d0 : (wr.drewN nq).cell? ⟨w.heap.size + 1 + 1 + 1, 0, none⟩ = some (.slice (some ⟨rb, 0, none⟩) (n + 1) vc) := b0
            have dz0 : (wr.drewN nq).cell? ⟨rb, n * 2, none⟩ = some (.int .i64 g) := z0
            have dz1 : (wr.drewN nq).cell? ⟨rb, n * 2 + 1, none⟩ = some (.int .i64 kk) := z1
            have dl : w.heap.size + 1 + 1 + 1 < (wr.drewN nq).heap.size := bl
            have drl : rb < (wr.drewN nq).heap.size := hrl
            clear b0 z0 z1 q5 bl hrl zf' HW2 xl hbb
            generalize wr.drewN nq = V at *
            obtain ⟨i1, hi0, hi1, hi2, hi3⟩ := info_m info_int
            have HW4 := Lib.hid (HW3.out.grow (W1 := V.alloc (.cells #[.int .i64 g] 3)) ((Fr.refl _ _).alloc _))
            have hstl : s.told.length ≤ 20000 := by have := HSUM2.out; have := HV.out; omega
            go_wp2_with (at_builtin; go_loud (refine wpList_append_any _ rfl (.tmp 45) (.tmp 50) _ rfl w.heap.size 3 i1 _ 1 8 Try.underlying22 hi0 hi1 hi2 hi3 rfl (show 0 < 1 by decide) (.slice tA s.told.length tc) s.told.length (ints s.told) rfl HW4.out.tl _ _ 1 1 [.int .i64 g] rfl (Reads.blk (cs := [.int .i64 g]) (Blk.new _ _ _) 1 1 rfl) (by simp [Value.oneCell']) (by unfold maxLen; omega) (by omega) HW4.out.below.size ?_; intro v' w6 hrow hg hnew; have HT := Lib.hid (HW4.out.tell hrow hg); have t0 := HT.out.m.wbx.cell 0; have tf := HT.out.m.wbx.frozen 0; have tl := HT.out.m.wbx.lt; simp only [List.getElem?_toArray, List.getElem?_cons_zero] at t0; obtain ⟨Av, cv, hve, _⟩ := owns_form hrow; subst hve; clear hrow hg hnew))
            have es : Lf.step gl s g kk = { told := s.told ++ [(g : Int)], met := s.met, way := l } := by
              unfold Lf.step
              rw [if_pos (by rw [HRAW.out]; exact HPL.out), HWW.out]
              simp
            have hnx := LfI.intro (HT.out.pop rfl HWW.out HHN.out) es HRUN2.out HST.out HTODO.out HSUM2.out
            exact ⟨⟨f', hnx⟩, by rw [HF2.out]; exact Nat.lt_succ_of_le (least_le hnx)⟩
          · obtain ⟨⟨pg, px, py⟩, hpk⟩ : ∃ p, gg.parts[kk]? = some p := ⟨_, List.getElem?_eq_getElem (by have := HPL.out; omega)⟩
            obtain ⟨c1, _, _⟩ := prts_at hpk
            obtain ⟨qb, qo, hqA, hqb, hqc2⟩ := HQ.out.at_ (by omega)
            subst hqA
            have p0 := (HW2.out.below.cell (p := ⟨qb, qo + kk * 3, none⟩) hqb).trans (hqc2 _ _ c1)
            have hpi := (HQI.out _ (List.mem_of_getElem? hpk)).1
            simp only at hpi p0
            have hqbl : qb < wr.heap.size := by have := HW2.out.below.size; omega
            have HPK := Lib.hid hpk
            have hqne : qb ≠ rb := by omega
            have hke' : ¬ (kk : Int) = (pl : Int) := by omega
            clear hpk c1 hqc2
            go_wp2_with fail
            go_quiet (fail)
            have HW3 := Lib.hid (HW2.out.grow ((Fr.refl _ wr).drewN nq))
            have d0 : (wr.drewN nq).cell? ⟨w.heap.size + 1 + 1 + 1, 0, none⟩ = some (.slice (some ⟨rb, 0, none⟩) (n + 1) vc) := b0
            have dz0 : (wr.drewN nq).cell? ⟨rb, n * 2, none⟩ = some (.int .i64 g) := z0
            have dz1 : (wr.drewN nq).cell? ⟨rb, n * 2 + 1, none⟩ = some (.int .i64 kk) := z1
            have dzf : (wr.drewN nq).frozen? ⟨rb, n * 2 + 1, none⟩ = false := zf'
            have dp0 : (wr.drewN nq).cell? ⟨qb, qo + kk * 3, none⟩ = some (.int .i64 pg) := p0
            have dl : w.heap.size + 1 + 1 + 1 < (wr.drewN nq).heap.size := bl
            have drl : rb < (wr.drewN nq).heap.size := hrl
            have dqbl : qb < (wr.drewN nq).heap.size := hqbl
            clear b0 z0 z1 q5 bl hrl zf' HW2 xl hbb p0 hqbl
            generalize wr.drewN nq = V at *
            have HW4 := Lib.hid (HW3.out.look rfl HWW.out HHN.out)
            go_wp2_with fail
            refine (enter_any _ gl w.heap.size (w.heap.size + 1 + 1) (w.heap.size + 1) (w.heap.size + 1 + 1 + 1) w.heap.size _ pg _ _ HV.out HW4.out.font HONE.out (by omega) hpi HW4.out.m (by simp only [List.length_append, List.length_singleton, HHN.out]; omega) HW4.out.below.size).mono ?_
            rintro e W5 ⟨rfl, wv5, hm5, hF5, _⟩
            have es : Lf.step gl s g kk = Lf.enter gl.length pg { s with way := l ++ [(g, kk + 1)] } := by
              unfold Lf.step
              rw [if_neg (by rw [HRAW.out, ← HPL.out]; exact hke), HWW.out, HRAW.out, HPK.out]
              simp
            have hnx := LfI.intro (HW4.out.entered hm5 (Lf.enter_told _ _ _) hF5) es HRUN2.out HST.out HTODO.out HSUM2.out
            have HNX := Lib.hid hnx
            clear hm5 hF5 hnx es
            go_wp2_with fail
            exact ⟨⟨f', HNX.out⟩, by rw [HF2.out]; exact Nat.lt_succ_of_le (least_le HNX.out)⟩
    · obtain rfl : k = fn := by omega
      obtain ⟨tA, tc, rfl, htc, _⟩ := owns_form hW.tl
      have HW := Lib.hid hW
      have hlf : Lf.lefts gl k = Lf.lefts gl gl.length := by rw [← HV.out]
      have HLF := Lib.hid hlf
      clear hW hway hok hsum hlf
      go_wp2_with fail
      go_ret
      have h := HW.out.tl
      rw [HLF.out] at h
      exact ⟨_, rfl, by rw [HLF.out]; exact h, HW.out.below⟩
end Go.Proofs.Ytoklllbaihccnaa
