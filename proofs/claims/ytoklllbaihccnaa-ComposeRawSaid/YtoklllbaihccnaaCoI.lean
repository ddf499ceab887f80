/- Ranges over a function whose iterator keeps a state of its own: the statement, and one round, without an invariant of the kit's make. -/
import Derived.Test.YtoklllbaihccnaaCoE
set_option linter.unusedVariables false
set_option linter.unusedSimpArgs false
namespace Go.Proofs.Ytoklllbaihccnaa
open Go.RowKit Go.Shelf
variable {F : Fence} {n : Nat} {P : Program}
abbrev lrec (fn : FuncId) (tmps : Array Value) (ps : Array Tmp) (assign body : Code) (D : Nat) : Loop := { state := .ready, pending := none, fn, tmps, params := ps, assign, body, defers := D }
theorem rangeN {g : Operand} {ps : Array Tmp} {assign body : Code} {Q : Exit → Act → World → Prop} {a : Act} {w : World} {l₀ : Nat} {r₀ : Loop} (hro : F.round = some l₀) (hl₀ : w.heap[l₀]? = some (.loop r₀)) (h1 : 1 ≤ n)
    {gf : Nat} {lb : Array Value} (hg : a.eval g = .func (.func gf) #[] lb) (hFg : F.fn gf) (eg : ∀ args w, (callFunc gf args).run P w = .ok (.enter gf args) w)
    (h : ∀ fn, F.fn fn → CallsIn F (n - 1) P gf (#[.func (.yield w.heap.size) #[] #[]] ++ lb) (w.alloc (.loop (lrec fn a.tmps ps assign body r₀.defers))) fun e W2 => (∃ v, e = .returned v) ∧
      W2.heap[w.heap.size]? = some (.loop (lrec fn a.tmps ps assign body r₀.defers)) ∧ ∀ o, Q .normal a (W2.putObj w.heap.size o)) :
    (Code.rangeFunc g ps assign body).wpIn F n P Q a w := by
  refine wpIn_rangeFunc ?_
  intro fn hfn
  rw [hro]
  refine ⟨w.heap.size, [], (w.alloc (.loop (lrec fn a.tmps ps assign body r₀.defers))), { target := .fn (.func gf) lb, args := #[.func (.yield w.heap.size) #[] #[]] }, (w.alloc (.loop (lrec fn a.tmps ps assign body r₀.defers))), gf, #[.func (.yield w.heap.size) #[] #[]] ++ lb, (w.alloc (.loop (lrec fn a.tmps ps assign body r₀.defers))), run_enterLoop_inner hl₀ _ _ _ _ _, ?_, ?_, ?_, fun _ => h1, ?_⟩
  · simp only [resolve, hg]
    simp [go_sem]
  · intro f' hf'; simp [Target.leads] at hf'; subst hf'; exact hFg
  · simp [invoke, go_sem, eg]
  · refine (h fn hfn).mono ?_
    rintro e W2 ⟨⟨v, rfl⟩, hl, hq⟩
    exact ⟨none, _, run_endLoop (P := P) hl (by simp), hq _⟩
theorem rangeO {g : Operand} {ps : Array Tmp} {assign body : Code} {Q : Exit → Act → World → Prop} {a : Act} {w : World} (hro : F.round = none) (h1 : 1 ≤ n)
    {gf : Nat} {lb : Array Value} (hg : a.eval g = .func (.func gf) #[] lb) (hFg : F.fn gf) (eg : ∀ args w, (callFunc gf args).run P w = .ok (.enter gf args) w)
    (h : ∀ fn, F.fn fn → CallsIn F (n - 1) P gf (#[.func (.yield (w.heap.size + 1)) #[] #[]] ++ lb) ((w.alloc (.deferred (some []))).alloc (.loop (lrec fn a.tmps ps assign body w.heap.size))) fun e W2 => (∃ v, e = .returned v) ∧
      W2.heap[w.heap.size + 1]? = some (.loop (lrec fn a.tmps ps assign body w.heap.size)) ∧ ∀ o, Q .normal { a with defers := { target := .collected w.heap.size, args := #[] } :: a.defers } (W2.putObj (w.heap.size + 1) o)) :
    (Code.rangeFunc g ps assign body).wpIn F n P Q a w := by
  refine wpIn_rangeFunc ?_
  intro fn hfn
  rw [hro]
  refine ⟨w.heap.size + 1, [{ target := .collected w.heap.size, args := #[] }], ((w.alloc (.deferred (some []))).alloc (.loop (lrec fn a.tmps ps assign body w.heap.size))), { target := .fn (.func gf) lb, args := #[.func (.yield (w.heap.size + 1)) #[] #[]] }, ((w.alloc (.deferred (some []))).alloc (.loop (lrec fn a.tmps ps assign body w.heap.size))), gf, #[.func (.yield (w.heap.size + 1)) #[] #[]] ++ lb, ((w.alloc (.deferred (some []))).alloc (.loop (lrec fn a.tmps ps assign body w.heap.size))), run_enterLoop_outer _ _ _ _ _, ?_, ?_, ?_, fun _ => h1, ?_⟩
  · simp only [resolve, hg]
    simp [go_sem]
  · intro f' hf'; simp [Target.leads] at hf'; subst hf'; exact hFg
  · simp [invoke, go_sem, eg]
  · refine (h fn hfn).mono ?_
    rintro e W2 ⟨⟨v, rfl⟩, hl, hq⟩
    exact ⟨none, _, run_endLoop (P := P) hl (by simp), hq _⟩
/-- one round: it goes on -/
def goesOn (l : Nat) (r : Loop) (R : World → Prop) : Exit → Act → World → Prop
  | .normal, _, W => W.heap[l]? = some (.loop { r with state := .busy }) ∧ R (W.putObj l (.loop r))
  | _, _, _ => False
theorem yieldAt_round {l D : Nat} {fn : FuncId} {tmps : Array Value} {ps : Array Tmp} {assign body : Code} {args : Array Value} {W : World} {R : World → Prop} (hl : W.heap[l]? = some (.loop (lrec fn tmps ps assign body D))) (hF : F.fn fn) (hs : args.size = ps.size)
    (h : assign.wpIn (F.inRound l) n P (Exit.then (fun a1 w1 => w1.heap[l]? = some (.loop (lrec fn tmps ps assign body D)) ∧ body.wpIn (F.inRound l) n P (goesOn l (lrec fn tmps ps assign body D) R) a1 (w1.putObj l (.loop { lrec fn tmps ps assign body D with state := .busy }))) (fun _ _ _ => False))
      { tmps := (ps.zip args).foldl (fun t (p, v) => t.setIfInBounds p v) tmps, defers := [] } W) :
    YieldAt F n P l args W fun e W' => e = .returned (.bool true) ∧ R W' := by
  refine ⟨fn, _, assign, body, run_yield (P := P) (args := args) hl hs, roundIn_of_wpIn hF (wpIn_mono h ?_)⟩
  intro e a1 w1 hq
  cases e with
  | normal =>
    obtain ⟨hl1, hb⟩ := hq
    refine ⟨_, run_beginRound hl1 rfl, wpIn_mono hb ?_⟩
    intro e a3 W3 hp
    cases e with
    | normal =>
      obtain ⟨hl3, hR⟩ := hp
      exact ⟨_, _, run_endRound (P := P) none hl3, rfl, hR⟩
    | ret => exact hp.elim
    | exit id => exact hp.elim
    | goto t => exact hp.elim
    | panic ch => exact hp.elim
    | outgrown => exact hp.elim
  | ret => exact hq.elim
  | exit id => exact hq.elim
  | goto t => exact hq.elim
  | panic ch => exact hq.elim
  | outgrown => exact hq.elim
end Go.Proofs.Ytoklllbaihccnaa
