/- compose.left's closure enter. Expanded from XCoX.src by expand.py. -/
import Derived.Test.YtoklllbaihccnaaCoW
set_option linter.unusedVariables false
set_option linter.unusedSimpArgs false
namespace Go.Proofs.Ytoklllbaihccnaa
open Go.RowKit Go.Shelf
namespace Lf
structure St where
  told : List Int
  met : Int → Bool
  way : List (Nat × Nat)
def raw (gl : List Gl) (g : Nat) : List Prt := (gl[g]?.map Gl.parts).getD []
def enter (n : Nat) (x : Int) (s : St) : St := if thereB n x = true ∧ s.met x = false then { s with met := upd s.met x true, way := s.way ++ [(x.toNat, 0)] } else s
def step (gl : List Gl) (s : St) (g k : Nat) : St :=
  if k = (raw gl g).length then { s with told := s.told ++ [(g : Int)], way := s.way.dropLast }
  else enter gl.length ((raw gl g)[k]?.map (·.1)).get! { s with way := s.way.dropLast ++ [(g, k + 1)] }
def run (gl : List Gl) : Nat → St → St
  | 0, s => s
  | f + 1, s => match s.way.getLast? with
    | none => s
    | some (g, k) => run gl f (step gl s g k)
/-- what is left to do at most -/
def todo (gl : List Gl) (s : St) : Nat := (s.way.map fun a => (raw gl a.1).length + 1 - a.2).foldl (· + ·) 0 + 1002 * ((List.range gl.length).filter fun g : Nat => !s.met g).length
end Lf
def stops (l : List (Nat × Nat)) : List Value := l.flatMap fun a => [.int .i64 (a.1 : Int), .int .i64 (a.2 : Int)]
theorem info_stop : (Try.prog.info? 128).map (fun i => (i.zero, i.size, i.bytes)) = some (some (.agg #[.int .i64 0, .int .i64 0]), 2, 16) := by kernel_rfl
structure LfM (w : World) (base mb M wb : Nat) (wv : Value) (s : Lf.St) : Prop where
  mbx : Blk w mb 49 #[.map (some M)]
  mm : BMap w M s.met
  wbx : Blk w wb 126 #[wv]
  row : w.ownsRow base 128 2 wv s.way.length (stops s.way)
def lfS (M wb : Nat) (wv : Value) (k : Nat) : Prop := k = M ∨ k = wb ∨ wv.ownBlock = some k
theorem Fr.grown_ {S : Nat → Prop} {w w1 w2 : World} {row : Option Nat} (h : Fr S w w1) (hg : w1.grownBy w2 row) (hr : ∀ r, row = some r → S r ∨ w.heap.size ≤ r) : Fr S w w2 :=
  ⟨hg.os.trans h.os, hg.tape.trans h.tape, hg.output.trans h.output, Nat.le_trans h.size hg.size, fun i hi hs => (hg.block i (by have := h.size; omega) (fun e => by
    rcases hr i e.symm with e2 | e2
    · exact hs e2
    · omega)).trans (h.block i hi hs)⟩
theorem LfM.grow {w w' : World} {base mb M wb : Nat} {wv : Value} {s : Lf.St} (h : LfM w base mb M wb wv s) (hg : Grow w w') : LfM w' base mb M wb wv s :=
  ⟨hg.blk h.mbx fun x => x, h.mm.keep (hg.block _ h.mm.lt fun x => x), hg.blk h.wbx fun x => x, owns_grow h.row hg⟩
theorem LfM.mark {w w' : World} {base mb M wb : Nat} {wv : Value} {s : Lf.St} (h : LfM w base mb M wb wv s) {x : Int} (hm : BMap w' M (upd s.met x true)) (hg : w.grownBy w' (some M)) : LfM w' base mb M wb wv { s with met := upd s.met x true } := by
  have k : ∀ g t cs, Blk w g t cs → Blk w' g t cs := fun g t cs hb => (hg.block g hb.lt fun e => by injection e with e; exact h.mm.mne hb e).trans hb
  exact ⟨k _ _ _ h.mbx, hm, k _ _ _ h.wbx, owns_keep h.row fun g e => by
    obtain ⟨_, _, cs, hb⟩ := owns_block h.row e
    rw [show w'.heap[g]? = _ from k g _ _ hb]; exact hb.symm⟩
theorem LfM.push {w w1 : World} {base mb M wb : Nat} {wv v' : Value} {s : Lf.St} (h : LfM w base mb M wb wv s) {a : Nat × Nat} (ho : w1.ownsRow base 128 2 v' (s.way.length + 1) (stops s.way ++ [.int .i64 (a.1 : Int), .int .i64 (a.2 : Int)])) (hg : w.grownBy w1 wv.ownBlock) :
    Blk w1 wb 126 #[wv] ∧ LfM (w1.setCell ⟨wb, 0, none⟩ v') base mb M wb v' { s with way := s.way ++ [a] } := by
  have hpb : ∀ g, wv.ownBlock = some g → ∃ cs, Blk w g 128 cs := fun g e => (owns_block h.row e).2.2
  have k : ∀ g t cs, Blk w g t cs → t ≠ 128 → Blk w1 g t cs := fun g t cs h ht => (hg.block g h.lt (fun e => by obtain ⟨cs', h'⟩ := hpb g e.symm; exact h.ne_ h' ht rfl)).trans h
  have b1 := k _ _ _ h.wbx (by decide)
  refine ⟨b1, (k _ _ _ h.mbx (by decide)).far (p := ⟨wb, 0, none⟩) (h.mbx.ne_ h.wbx (by decide)) _, ?_, ?_, ?_⟩
  · refine h.mm.keep ((Below.heap_setCell _ _ _ _ (fun e => h.mm.mne h.wbx e.symm)).trans (hg.block _ h.mm.lt fun e => ?_))
    obtain ⟨cs, hb⟩ := hpb _ e.symm
    exact h.mm.mne hb rfl
  · have := b1.set_ 0 v'
    simpa using this
  · have e : stops (s.way ++ [a]) = stops s.way ++ [.int .i64 (a.1 : Int), .int .i64 (a.2 : Int)] := by simp [stops]
    show World.ownsRow _ _ _ _ _ (s.way ++ [a]).length (stops (s.way ++ [a]))
    rw [e, List.length_append, List.length_singleton]
    exact owns_set ho b1 (by decide) 0 v'
set_option maxRecDepth 100000 in
set_option maxHeartbeats 4000000 in
theorem enter_any (fv : Fv) (gl : List Gl) (base mb M wb X : Nat) (wv : Value) (x : Int) (s : Lf.St) (w : World) (hv : fv.n = gl.length) (hX : Blk w X 32 fv.cs) (h1 : fv.One) (hn : gl.length ≤ 1000) (hx : I64 x) (h : LfM w base mb M wb wv s) (hl : s.way.length ≤ 1000000) (hbase : base ≤ w.heap.size) :
    Calls Try.prog 59 #[.int .i64 x, .pointer (some ⟨X, 0, none⟩), .pointer (some ⟨mb, 0, none⟩), .pointer (some ⟨wb, 0, none⟩)] w fun e w' => e = .returned (.tuple #[]) ∧ ∃ wv', LfM w' base mb M wb wv' (Lf.enter gl.length x s) ∧ Fr (lfS M wb wv) w w' ∧ ∀ k, wv'.ownBlock = some k → wv.ownBlock = some k ∨ w.heap.size ≤ k := by
  obtain ⟨fu, fA, fn, fc, d2, d3, d4, d5, d6, d7, d8⟩ := fv
  obtain ⟨⟨xu, k0⟩, ⟨A2, n2, c2, k2⟩, ⟨A3, n3, c3, k3⟩, ⟨A4, n4, c4, k4⟩, ⟨A5, n5, c5, k5⟩, ⟨A6, n6, c6, k6⟩, ⟨A7, n7, c7, k7⟩, ⟨A8, n8, c8, k8⟩⟩ := h1
  simp only at k0 k2 k3 k4 k5 k6 k7 k8 hv
  subst k0 k2 k3 k4 k5 k6 k7 k8
  have HV := Lib.hid hv
  have hfn : fn ≤ 1000000 := by omega
  have y0 := hX.cell 0
  have y1 := hX.cell 1
  have y2 := hX.cell 2
  have y3 := hX.cell 3
  have y4 := hX.cell 4
  have y5 := hX.cell 5
  have y6 := hX.cell 6
  have y7 := hX.cell 7
  have y8 := hX.cell 8
  have yl := hX.lt
  simp only [List.getElem?_toArray, List.getElem?_cons_zero, List.getElem?_cons_succ] at y0 y1 y2 y3 y4 y5 y6 y7 y8
  obtain ⟨vA, vc, rfl, hvc, _⟩ := owns_form h.row
  have m0 := h.mbx.cell 0
  have ml := h.mbx.lt
  have w0 := h.wbx.cell 0
  have wl := h.wbx.lt
  simp only [List.getElem?_toArray, List.getElem?_cons_zero] at m0 w0
  have HL := Lib.hid h
  clear hv h hX
  have hgal : ∀ o : Obj, Grow w (w.alloc o) := fun o => (Fr.refl _ _).alloc o
  have HGA := Lib.hid hgal
  clear hgal
  by_cases ht : thereB gl.length x = true
  · by_cases hm : s.met x = true
    · have hlk2 := (HL.out.grow (HGA.out (.cells (Fv.cs ⟨.int .i64 xu, fA, fn, fc, .slice A2 n2 c2, .slice A3 n3 c3, .slice A4 n4 c4, .slice A5 n5 c5, .slice A6 n6 c6, .slice A7 n7 c7, .slice A8 n8 c8⟩) 32))).mm.look x hx
      rw [hm] at hlk2
      have he : Lf.enter gl.length x s = s := by unfold Lf.enter; rw [if_neg (fun e => by rw [hm] at e; exact absurd e.2 (by decide))]
      have HE := Lib.hid he
      clear he hm
      go_enter Try.func59, Try.ntmps59
      go_wp2_with (go_at_call 23; refine (there_any ⟨.int .i64 xu, fA, fn, fc, .slice A2 n2 c2, .slice A3 n3 c3, .slice A4 n4 c4, .slice A5 n5 c5, .slice A6 n6 c6, .slice A7 n7 c7, .slice A8 n8 c8⟩ x _ hfn hx).mono ?_; rintro e w' ⟨rfl, rfl⟩; rw [show thereB (Fv.n ⟨.int .i64 xu, fA, fn, fc, .slice A2 n2 c2, .slice A3 n3 c3, .slice A4 n4 c4, .slice A5 n5 c5, .slice A6 n6 c6, .slice A7 n7 c7, .slice A8 n8 c8⟩) x = true by rw [show Fv.n ⟨.int .i64 xu, fA, fn, fc, .slice A2 n2 c2, .slice A3 n3 c3, .slice A4 n4 c4, .slice A5 n5 c5, .slice A6 n6 c6, .slice A7 n7 c7, .slice A8 n8 c8⟩ = gl.length from HV.out]; exact ht])
      go_end0
      exact ⟨rfl, _, by rw [HE.out]; exact HL.out.grow (HGA.out _), (HGA.out _).mono fun _ _ x => x.elim, fun k e => .inl e⟩
    · have hm0 : s.met x = false := by simpa using hm
      have hL1 := HL.out.grow (HGA.out (.cells (Fv.cs ⟨.int .i64 xu, fA, fn, fc, .slice A2 n2 c2, .slice A3 n3 c3, .slice A4 n4 c4, .slice A5 n5 c5, .slice A6 n6 c6, .slice A7 n7 c7, .slice A8 n8 c8⟩) 32))
      have hlk2 := hL1.mm.look x hx
      rw [hm0] at hlk2
      obtain ⟨w2, m1, m2, m3, m4⟩ := hL1.mm.store x hx true
      have hL2 := hL1.mark m2 m3
      have he : Lf.enter gl.length x s = { s with met := upd s.met x true, way := s.way ++ [(x.toNat, 0)] } := by unfold Lf.enter; rw [if_pos ⟨ht, hm0⟩]
      have hxn : ((x.toNat : Nat) : Int) = x := by have : 0 ≤ x ∧ x < gl.length := by simpa [thereB] using ht
                                                   omega
      have v0 := hL2.wbx.cell 0
      have vl := hL2.wbx.lt
      simp only [List.getElem?_toArray, List.getElem?_cons_zero] at v0
      have HE := Lib.hid he
      have HM3 := Lib.hid m3
      have HM4 := Lib.hid m4
      have HL2 := Lib.hid (hL2.grow (w' := w2.alloc (.cells #[.int .i64 x, .int .i64 0] 128)) ((Fr.refl _ _).alloc _))
      have HXN := Lib.hid hxn
      obtain ⟨i1, hi0, hi1, hi2, hi3⟩ := info_m info_stop
      have ml1 : mb < w.heap.size + 1 := by omega
      have mm0 := hL1.mbx.cell 0
      simp only [List.getElem?_toArray, List.getElem?_cons_zero] at mm0
      clear he hm hm0 hL1 hL2 m2 m3 m4 hxn
      go_enter Try.func59, Try.ntmps59
      go_wp2_with (first
        | (go_at_call 23; refine (there_any ⟨.int .i64 xu, fA, fn, fc, .slice A2 n2 c2, .slice A3 n3 c3, .slice A4 n4 c4, .slice A5 n5 c5, .slice A6 n6 c6, .slice A7 n7 c7, .slice A8 n8 c8⟩ x _ hfn hx).mono ?_; rintro e w' ⟨rfl, rfl⟩; rw [show thereB (Fv.n ⟨.int .i64 xu, fA, fn, fc, .slice A2 n2 c2, .slice A3 n3 c3, .slice A4 n4 c4, .slice A5 n5 c5, .slice A6 n6 c6, .slice A7 n7 c7, .slice A8 n8 c8⟩) x = true by rw [show Fv.n ⟨.int .i64 xu, fA, fn, fc, .slice A2 n2 c2, .slice A3 n3 c3, .slice A4 n4 c4, .slice A5 n5 c5, .slice A6 n6 c6, .slice A7 n7 c7, .slice A8 n8 c8⟩ = gl.length from HV.out]; exact ht])
        | (at_builtin; go_loud (refine wpList_append_any _ rfl (.tmp 16) (.tmp 19) _ rfl base 128 i1 _ 2 16 Try.underlying126 hi0 hi1 hi2 hi3 rfl (show 0 < 2 by decide) (.slice vA s.way.length vc) s.way.length (stops s.way) rfl HL2.out.row _ _ 1 1 [.int .i64 x, .int .i64 0] rfl (Reads.blk (cs := [.int .i64 x, .int .i64 0]) (Blk.new _ _ _) 2 1 rfl) (by simp [Value.oneCell']) (by unfold maxLen; omega) (by omega) (by have := HM4.out; simp at this; simp; omega) ?_; intro v' w6 hrow hg hnew; have HP := Lib.hid (HL2.out.push (a := (x.toNat, 0)) (by simp only [HXN.out]; exact hrow) hg); have HGG := Lib.hid hg; have HNW := Lib.hid hnew; have q0 := HP.out.1.cell 0; have qf := HP.out.1.frozen 0; have ql := HP.out.1.lt; simp only [List.getElem?_toArray, List.getElem?_cons_zero] at q0; obtain ⟨Av, cv, hve, _⟩ := owns_form hrow; subst hve; clear hrow hg hnew)))
      go_end0
      refine ⟨rfl, _, by rw [HE.out]; exact HP.out.2, ?_, fun k e => ?_⟩
      · have f1 : Fr (lfS M wb (.slice vA s.way.length vc)) w (w.alloc (.cells (Fv.cs ⟨.int .i64 xu, fA, fn, fc, .slice A2 n2 c2, .slice A3 n3 c3, .slice A4 n4 c4, .slice A5 n5 c5, .slice A6 n6 c6, .slice A7 n7 c7, .slice A8 n8 c8⟩) 32)) := (HGA.out _).mono fun _ _ x => x.elim
        have f2 := f1.grown_ HM3.out (fun r e => by injection e with e; exact .inl (.inl e.symm))
        have f3 := (f2.alloc (.cells #[.int .i64 x, .int .i64 0] 128)).grown_ HGG.out (fun r e => .inl (.inr (.inr e)))
        exact f3.setCell (p := ⟨wb, 0, none⟩) (.inl (.inr (.inl rfl))) _
      · rcases HNW.out with h | h
        · exact .inl (h ▸ e)
        · rw [h] at e; injection e with e; have := HM4.out; simp at this e; right; omega
  · simp only [Bool.not_eq_true] at ht
    have he : Lf.enter gl.length x s = s := by unfold Lf.enter; rw [if_neg (fun e => by rw [ht] at e; exact absurd e.1 (by decide))]
    have HE := Lib.hid he
    clear he
    go_enter Try.func59, Try.ntmps59
    go_wp2_with (go_at_call 23; refine (there_any ⟨.int .i64 xu, fA, fn, fc, .slice A2 n2 c2, .slice A3 n3 c3, .slice A4 n4 c4, .slice A5 n5 c5, .slice A6 n6 c6, .slice A7 n7 c7, .slice A8 n8 c8⟩ x _ hfn hx).mono ?_; rintro e w' ⟨rfl, rfl⟩; rw [show thereB (Fv.n ⟨.int .i64 xu, fA, fn, fc, .slice A2 n2 c2, .slice A3 n3 c3, .slice A4 n4 c4, .slice A5 n5 c5, .slice A6 n6 c6, .slice A7 n7 c7, .slice A8 n8 c8⟩) x = false by rw [show Fv.n ⟨.int .i64 xu, fA, fn, fc, .slice A2 n2 c2, .slice A3 n3 c3, .slice A4 n4 c4, .slice A5 n5 c5, .slice A6 n6 c6, .slice A7 n7 c7, .slice A8 n8 c8⟩ = gl.length from HV.out]; exact ht])
    go_end0
    exact ⟨rfl, _, by rw [HE.out]; exact HL.out.grow (HGA.out _), (HGA.out _).mono fun _ _ x => x.elim, fun k e => .inl e⟩
end Go.Proofs.Ytoklllbaihccnaa
