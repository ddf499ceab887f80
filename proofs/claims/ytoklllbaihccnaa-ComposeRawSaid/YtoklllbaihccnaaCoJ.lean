/- compose.walk: what its memory holds; what a walk down tells, as a plain function. -/
import Derived.Test.YtoklllbaihccnaaCoI
import Derived.Test.YtoklllbaihccnaaCoF
set_option linter.unusedVariables false
set_option linter.unusedSimpArgs false
namespace Go.Proofs.Ytoklllbaihccnaa
open Go.RowKit Go.Shelf
/-! ### a map of marks -/
def BMap (w : World) (b : Nat) (c : Int → Bool) : Prop := ∃ f, IMap w b f ∧ ∀ k, (f k = none ∧ c k = false) ∨ f k = some (.bool (c k))
theorem BMap.new_at (w : World) {b : Nat} (h : b = w.heap.size) : BMap (w.alloc (.map #[] 0)) b (fun _ => false) := by subst h; exact ⟨_, IMap.new w, fun _ => .inl ⟨rfl, rfl⟩⟩
theorem BMap.lt {w : World} {b : Nat} {c : Int → Bool} (h : BMap w b c) : b < w.heap.size := by obtain ⟨f, h, _⟩ := h; exact h.lt
theorem BMap.keep {w w' : World} {b : Nat} {c : Int → Bool} (h : BMap w b c) (k : w'.heap[b]? = w.heap[b]?) : BMap w' b c := by obtain ⟨f, h, h2⟩ := h; exact ⟨f, h.keep k, h2⟩
theorem BMap.mne {w : World} {b g : Nat} {c : Int → Bool} {t : TypeId} {cs : Array Value} (h : BMap w b c) (hb : Blk w g t cs) : g ≠ b := by obtain ⟨f, h, _⟩ := h; exact h.mne hb
theorem BMap.look {w : World} {b : Nat} {c : Int → Bool} (h : BMap w b c) (k : Int) (hk : I64 k) :
    (Instr.lookup 49 (.map (some b)) (.int .i64 k) false).run Try.prog w = .ok (.bool (c k)) w := by
  obtain ⟨f, h, h2⟩ := h
  have := h.look (t := 49) Try.underlying49 (z := .bool false) (by kernel_rfl) k hk
  rw [this]
  rcases h2 k with ⟨e1, e2⟩ | e1
  · rw [e1, e2]; rfl
  · rw [e1]; rfl
theorem BMap.store {w : World} {b : Nat} {c : Int → Bool} (h : BMap w b c) (k : Int) (hk : I64 k) (x : Bool) :
    ∃ w', (Instr.mapUpdate 49 (.map (some b)) (.int .i64 k) (.bool x)).run Try.prog w = .ok () w' ∧ BMap w' b (upd c k x) ∧ w.grownBy w' (some b) ∧ w'.heap.size = w.heap.size := by
  obtain ⟨f, h, h2⟩ := h
  obtain ⟨w', h3, h4, h5, h6⟩ := h.store (t := 49) Try.underlying49 k hk (.bool x)
  refine ⟨w', h3, ⟨_, h4, fun k' => ?_⟩, h5, h6⟩
  by_cases e : k' = k
  · subst e; right; simp [upd]
  · rw [upd_ne _ _ e]; simpa [e] using h2 k'

namespace Wk
structure St where
  met : Int → Bool
  later : List Int
  out : List Int
def St.mark (s : St) (g : Int) : St := { s with met := upd s.met g true }
def St.tell (s : St) (g : Int) : St := { s with out := s.out ++ [g] }
def St.push (s : St) (g : Int) : St := { s with later := s.later ++ [g] }
def visit (gl : List Gl) : Nat → Int → St → St
  | 0, g, s => if s.met g = true then s else s.push g
  | L + 1, g, s => if s.met g = true then s else (partsOf gl g.toNat).foldl (fun s p => visit gl L p.1 s) ((s.mark g).tell g)
/-- glyphs not met yet -/
def rest (n : Nat) (s : St) : Nat := ((List.range n).filter fun g : Nat => !s.met g).length
/-- what later may come to, less one for the visit at hand -/
def pot (n : Nat) (s : St) : Nat := s.later.length + 1000 * rest n s
theorem rest_mark {n : Nat} {s : St} {g : Nat} (hg : g < n) (hm : s.met g = false) : rest n (s.mark g) + 1 ≤ rest n s := by
  have : ∀ (l : List Nat), g ∈ l → l.Nodup → (l.filter fun x : Nat => !(upd s.met (g : Int) true) x).length + 1 ≤ (l.filter fun x : Nat => !s.met x).length := by
    intro l
    induction l with
    | nil => intro h; cases h
    | cons a l ih =>
      intro h hn
      have hnn := List.nodup_cons.1 hn
      by_cases e : a = g
      · subst e
        have e2 : (l.filter fun x : Nat => !(upd s.met (a : Int) true) x) = l.filter fun x : Nat => !s.met x := List.filter_congr fun x hx => by
          have hne : x ≠ a := fun e => hnn.1 (e ▸ hx)
          simp only [upd]
          rw [if_neg (by omega)]
        simp only [List.filter_cons, upd_same, hm, Bool.not_true, Bool.false_eq_true, if_false, Bool.not_false, if_true, List.length_cons, e2]
        omega
      · have h2 : g ∈ l := by rcases List.mem_cons.1 h with h | h; exact absurd h.symm e; exact h
        have := ih h2 hnn.2
        have e3 : upd s.met (g : Int) true (a : Int) = s.met a := by simp only [upd]; rw [if_neg (by omega)]
        simp only [List.filter_cons, e3]
        split
        · simp only [List.length_cons]; omega
        · exact this
  exact this _ (List.mem_range.2 hg) List.nodup_range
theorem visit_pot (gl : List Gl) (hp : ∀ g, (partsOf gl g).length ≤ 1000) : ∀ (L : Nat) (g : Int) (s : St), (0 ≤ g ∧ g < gl.length) → pot gl.length (visit gl L g s) ≤ pot gl.length s + 1 ∧ (visit gl L g s).out.length + rest gl.length (visit gl L g s) ≤ s.out.length + rest gl.length s
  | 0, g, s, _ => by
    unfold visit
    split
    · omega
    · have e : rest gl.length (s.push g) = rest gl.length s := rfl
      have e2 : (s.push g).out = s.out := rfl
      have e3 : (s.push g).later.length = s.later.length + 1 := by simp [St.push]
      unfold pot
      rw [e, e2, e3]
      omega
  | L + 1, g, s, ⟨h0, h1⟩ => by
    unfold visit
    split
    · omega
    · rename_i hm
      obtain ⟨k, rfl⟩ := Int.eq_ofNat_of_zero_le h0
      have hr := rest_mark (n := gl.length) (s := s) (g := k) (by omega) (by simpa using hm)
      have hfold : ∀ (ps : List Prt) (s' : St), (∀ p ∈ ps, 0 ≤ p.1 ∧ p.1 < gl.length) → pot gl.length (ps.foldl (fun s p => visit gl L p.1 s) s') ≤ pot gl.length s' + ps.length ∧
          (ps.foldl (fun s p => visit gl L p.1 s) s').out.length + rest gl.length (ps.foldl (fun s p => visit gl L p.1 s) s') ≤ s'.out.length + rest gl.length s' := by
        intro ps
        induction ps with
        | nil => intro s' _; simp
        | cons p ps ih =>
          intro s' h
          obtain ⟨a1, a2⟩ := visit_pot gl hp L p.1 s' (h p List.mem_cons_self)
          obtain ⟨b1, b2⟩ := ih (visit gl L p.1 s') fun q hq => h q (List.mem_cons_of_mem _ hq)
          rw [List.foldl_cons, List.length_cons]
          omega
      obtain ⟨c1, c2⟩ := hfold (partsOf gl (k : Int).toNat) ((s.mark k).tell k) fun p hp => (mem_psOf hp).2
      have h3 := hp (k : Int).toNat
      have e1 : rest gl.length ((s.mark (k : Int)).tell (k : Int)) = rest gl.length (s.mark k) := rfl
      have e2 : ((s.mark (k : Int)).tell (k : Int)).later = s.later := rfl
      have e3 : ((s.mark (k : Int)).tell (k : Int)).out.length = s.out.length + 1 := by simp [St.mark, St.tell]
      unfold pot at c1 ⊢
      rw [e1, e2] at c1
      rw [e1, e3] at c2
      omega
end Wk
abbrev walkC (fv : Fv) (M : Nat) (v : Value) : Array Value := #[fv.u, .slice fv.A fv.n fv.c, fv.d2, fv.d3, fv.d4, fv.d5, fv.d6, fv.d7, fv.d8, .map (some M), v]
/-- a walk's memory, and what has been told -/
structure WkS (w : World) (base wb M ab : Nat) (fv : Fv) (S : Nat → Prop) (v av : Value) (s : Wk.St) : Prop where
  blk : Blk w wb 70 (walkC fv M v)
  mm : BMap w M s.met
  row : w.ownsRow base 3 1 v s.later.length (ints s.later)
  abx : Blk w ab 22 #[av]
  out : w.ownsRow base 3 1 av s.out.length (ints s.out)
  va : Apart v av
  sv : ∀ k, v.ownBlock = some k → S k
  sa : ∀ k, av.ownBlock = some k → S k
  sl : ∀ k, S k → base ≤ k ∧ ∃ cs, Blk w k 3 cs
  bs : base ≤ wb ∧ base ≤ M ∧ base ≤ ab
def AW (base wb M ab : Nat) (fv : Fv) (S : Nat → Prop) (s : Wk.St) (w : World) : Prop := ∃ v av, WkS w base wb M ab fv S v av s
def mutS (wb M ab : Nat) (S : Nat → Prop) (k : Nat) : Prop := k = wb ∨ k = M ∨ k = ab ∨ S k
def Sub (S' S : Nat → Prop) (W : World) : Prop := ∀ k, S' k → S k ∨ W.heap.size ≤ k
theorem Sub.refl (S : Nat → Prop) (W : World) : Sub S S W := fun _ h => .inl h
theorem Sub.trans {S S' S'' : Nat → Prop} {W W' : World} (h : Sub S' S W) (k : Sub S'' S' W') (hs : W.heap.size ≤ W'.heap.size) : Sub S'' S W := fun i hi => by
  rcases k i hi with h1 | h1
  · exact h i h1
  · right; omega
/-- two steps, each of which turns its own mutable blocks -/
theorem fr_then {wb M ab : Nat} {S S' : Nat → Prop} {W W' W'' : World} (h : Fr (mutS wb M ab S) W W') (k : Fr (mutS wb M ab S') W' W'') (hS : Sub S' S W) : Fr (mutS wb M ab S) W W'' :=
  h.then_ k fun i hi hm => by
    rcases hm with e | e | e | e
    · exact .inl e
    · exact .inr (.inl e)
    · exact .inr (.inr (.inl e))
    · rcases hS i e with e | e
      · exact .inr (.inr (.inr e))
      · exact absurd hi (Nat.not_lt.2 e)
section
variable {w w' : World} {base wb M ab : Nat} {fv : Fv} {S : Nat → Prop} {v av : Value} {s : Wk.St}
theorem WkS.mlt (h : WkS w base wb M ab fv S v av s) : ∀ k, mutS wb M ab S k → k < w.heap.size := fun k hk => by
  rcases hk with rfl | rfl | rfl | e
  · exact h.blk.lt
  · exact h.mm.lt
  · exact h.abx.lt
  · obtain ⟨_, cs, hb⟩ := h.sl k e; exact hb.lt
/-- what leaves the mutable blocks as they are -/
theorem WkS.keep (h : WkS w base wb M ab fv S v av s) (k : ∀ g, mutS wb M ab S g → w'.heap[g]? = w.heap[g]?) : WkS w' base wb M ab fv S v av s :=
  ⟨(k wb (.inl rfl)).trans h.blk, h.mm.keep (k M (.inr (.inl rfl))), owns_keep h.row fun g e => k g (.inr (.inr (.inr (h.sv g e)))), (k ab (.inr (.inr (.inl rfl)))).trans h.abx, owns_keep h.out fun g e => k g (.inr (.inr (.inr (h.sa g e)))), h.va, h.sv, h.sa,
    fun g e => by obtain ⟨h1, cs, hb⟩ := h.sl g e; exact ⟨h1, cs, (k g (.inr (.inr (.inr e)))).trans hb⟩, h.bs⟩
theorem WkS.grow (h : WkS w base wb M ab fv S v av s) (hg : Grow w w') : WkS w' base wb M ab fv S v av s := h.keep fun g e => hg.block g (h.mlt g e) fun x => x
theorem WkS.ne (h : WkS w base wb M ab fv S v av s) : wb ≠ M ∧ ab ≠ M ∧ wb ≠ ab ∧ ¬ S wb ∧ ¬ S M ∧ ¬ S ab := by
  refine ⟨h.mm.mne h.blk, h.mm.mne h.abx, h.blk.ne_ h.abx (by decide), fun e => ?_, fun e => ?_, fun e => ?_⟩
  · obtain ⟨_, cs, hb⟩ := h.sl _ e; exact h.blk.ne_ hb (by decide) rfl
  · obtain ⟨_, cs, hb⟩ := h.sl _ e; exact h.mm.mne hb rfl
  · obtain ⟨_, cs, hb⟩ := h.sl _ e; exact h.abx.ne_ hb (by decide) rfl
/-- a mark -/
theorem WkS.marked (h : WkS w base wb M ab fv S v av s) {g : Int} (hm : BMap w' M (upd s.met g true)) (hg : w.grownBy w' (some M)) : WkS w' base wb M ab fv S v av (s.mark g) := by
  have k : ∀ g, g < w.heap.size → g ≠ M → w'.heap[g]? = w.heap[g]? := fun g hl hne => hg.block g hl fun e => hne (by injection e)
  obtain ⟨n1, n2, n3, n4, n5, n6⟩ := h.ne
  have ks : ∀ g, S g → w'.heap[g]? = w.heap[g]? := fun g e => k g (h.mlt g (.inr (.inr (.inr e)))) fun e2 => n5 (e2 ▸ e)
  exact ⟨(k wb h.blk.lt n1).trans h.blk, hm, owns_keep h.row fun g e => ks g (h.sv g e), (k ab h.abx.lt n2).trans h.abx, owns_keep h.out fun g e => ks g (h.sa g e), h.va, h.sv, h.sa,
    fun g e => by obtain ⟨h1, cs, hb⟩ := h.sl g e; exact ⟨h1, cs, (ks g e).trans hb⟩, h.bs⟩
/-- one more for later -/
theorem WkS.pushed (h : WkS w base wb M ab fv S v av s) {g : Int} {w1 : World} {v' : Value} (ho : w1.ownsRow base 3 1 v' (s.later.length + 1) (ints s.later ++ [.int .i64 g])) (hg : w.grownBy w1 v.ownBlock) (hn : v'.ownBlock = v.ownBlock ∨ v'.ownBlock = some w.heap.size) :
    Blk w1 wb 70 (walkC fv M v) ∧ WkS (w1.setCell ⟨wb, 10, none⟩ v') base wb M ab fv (fun k => v'.ownBlock = some k ∨ av.ownBlock = some k) v' av (s.push g) ∧ Fr (mutS wb M ab S) w (w1.setCell ⟨wb, 10, none⟩ v') ∧ Sub (fun k => v'.ownBlock = some k ∨ av.ownBlock = some k) S w := by
  obtain ⟨n1, n2, n3, n4, n5, n6⟩ := h.ne
  have hvS : ∀ k, v.ownBlock = some k → S k := h.sv
  have k : ∀ g, g < w.heap.size → v.ownBlock ≠ some g → w1.heap[g]? = w.heap[g]? := fun g hl hne => hg.block g hl fun e => hne e.symm
  have hb1 : Blk w1 wb 70 (walkC fv M v) := (k wb h.blk.lt fun e => n4 (hvS _ e)).trans h.blk
  have hk : ∀ g, g ≠ wb → (w1.setCell ⟨wb, 10, none⟩ v').heap[g]? = w1.heap[g]? := fun g hne => Below.heap_setCell _ _ _ _ hne
  refine ⟨hb1, ⟨?_, h.mm.keep ((hk M (Ne.symm n1)).trans (k M h.mm.lt fun e => n5 (hvS _ e))), ?_, ?_, ?_, ?_, fun k e => .inl e, fun k e => .inr e, ?_, h.bs⟩, ?_, ?_⟩
  · have := hb1.set_ 10 v'
    simpa [walkC] using this
  · have e : ints (s.push g).later = ints s.later ++ [.int .i64 g] := by simp [Wk.St.push, ints]
    rw [e, show (s.push g).later.length = s.later.length + 1 by simp [Wk.St.push]]
    exact owns_set ho hb1 (by decide) 10 v'
  · exact (hk ab (Ne.symm n3)).trans ((k ab h.abx.lt fun e => n6 (hvS _ e)).trans h.abx)
  · exact owns_keep h.out fun g e => (hk g (fun e2 => n4 (e2 ▸ h.sa g e))).trans (k g (owns_block h.out e).2.1 fun e2 => h.va g e2 e)
  · exact apart_pushed h.out h.va hn
  · intro g e
    rcases e with e | e
    · obtain ⟨h2, _, cs', hb'⟩ := owns_block ho e
      refine ⟨h2, cs', (hk g ?_).trans hb'⟩
      rintro rfl
      exact hb1.ne_ hb' (by decide) rfl
    · obtain ⟨h2, h3, cs', hb'⟩ := owns_block h.out e
      exact ⟨h2, cs', (hk g fun e2 => n4 (e2 ▸ h.sa g e)).trans ((k g h3 fun e2 => h.va g e2 e).trans hb')⟩
  · have h1 : Fr (mutS wb M ab S) w w1 := ⟨hg.os, hg.tape, hg.output, hg.size, fun g hl hm => k g hl fun e => hm (.inr (.inr (.inr (hvS g e))))⟩
    exact h1.setCell (p := ⟨wb, 10, none⟩) (.inl (.inl rfl)) v'
  · intro k e
    rcases e with e | e
    · rcases hn with hn | hn
      · exact .inl (hvS k (hn ▸ e))
      · rw [hn] at e; injection e with e; right; omega
    · exact .inl (h.sa k e)
end
end Go.Proofs.Ytoklllbaihccnaa
