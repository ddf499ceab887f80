/- A drawn region in a round's frame, walked in one order; maps that count, maps of rows. -/
import Derived.Test.YtoklllbaihccnaaCoB
import Derived.Test.YtoklllbaihccnaaCoD
import Derived.RangeFuncNested
import Derived.RangeFuncCalls
import Derived.RangeFuncOne
set_option linter.unusedVariables false
set_option linter.unusedSimpArgs false
namespace Go.Proofs.Ytoklllbaihccnaa
open Go.RowKit Go.Shelf
attribute [local go_sem] Oper.semAt_some
theorem uponIn_of_upon {l n : Nat} {P : Program} {o : Oper} {a : Act} {next next' : Act → World → Prop} {Q : Exit → Act → World → Prop} (hn : ∀ a w, next a w → next' a w) :
    ∀ r : Result Next, o.upon P a next Q r → o.uponIn (Fence.wide.inRound l) n P a next' Q r := by
  intro r h
  unfold Oper.upon at h
  split at h
  · exact hn _ _ h
  · exact hn _ _ h
  · exact hn _ _ h
  · refine ⟨fun h => by simp [Fence.wide] at h, CallsIn.inRound l (callsIn_wide.2 (Calls.mono h ?_))⟩
    intro e w' h
    split at h
    · exact hn _ _ h
    · exact h
    · exact h
  · refine ⟨fun h => by simp [Fence.wide] at h, fun c cs _ => ?_⟩
    obtain ⟨v, w', r, s⟩ := h c cs
    exact ⟨v, w', hn _ _ r, stepsIn_wide.2 s⟩
  · exact h
  · exact h.elim

theorem opsIn_of_ops {l n : Nat} {P : Program} {ops : Array Oper} {Q : Exit → Act → World → Prop} (hd : ∀ (i : Nat) (o : Oper) c, ops[i]? = some o → o.op ≠ .defer c) (hQ : ¬ LetsOut Q) :
    ∀ (is : List Nat) (a : Act) (w : World), wpOps P ops Q is a w → wpOpsIn (Fence.wide.inRound l) n P ops Q is a w := by
  intro is
  induction is with
  | nil => intro a w h; exact h
  | cons i rest ih =>
    intro a w h
    unfold wpOps at h
    unfold wpOpsIn
    cases ho : ops[i]? with
    | none => rw [ho] at h; exact ih a w h
    | some o =>
      rw [ho] at h
      simp only at h ⊢
      split at h
      · rename_i hw
        rw [if_pos hw]
        rcases h with h | h
        · refine ⟨fun _ _ => trivial, ?_⟩
          show o.uponIn _ n P a _ Q ((o.semAt (some l) a.eval).run P w)
          rw [Oper.semAt_some l a.eval o (fun c => hd i o c ho)]
          exact uponIn_of_upon (fun a w => ih a w) _ h
        · exact absurd h.2 hQ
      · rename_i hw
        rw [if_neg hw]
        exact ⟨fun _ _ => trivial, ih _ _ h⟩

/-- no operation of a region is a 'defer' -/
def noDefer (ops : Array Oper) : Bool := ops.toList.all fun o => match o.op with | .defer _ => false | _ => true
theorem noDefer_spec {ops : Array Oper} (h : noDefer ops = true) (i : Nat) (o : Oper) (c) (ho : ops[i]? = some o) : o.op ≠ .defer c := by
  intro he
  have hm : o ∈ ops.toList := by
    have := List.mem_of_getElem? (by simpa using ho : ops.toList[i]? = some o)
    exact this
  have := List.all_eq_true.1 h o hm
  rw [he] at this
  simp at this

theorem region_in_round {l n id : Nat} {P : Program} {ops : Array Oper} {Q : Exit → Act → World → Prop} {a : Act} {w : World} (hm : P.follows .mixedOrders = true) (hd : noDefer ops = true) (hQ : ¬ LetsOut Q)
    (h : wpAny P .any ops Q ops.size (Array.replicate ops.size false) a w.drew) : (Code.region id ops true).wpIn (Fence.wide.inRound l) n P Q a w :=
  wpIn_region_draw fun t => by
    simp only [Region.schedule, hm, Bool.true_or, if_true]
    exact opsIn_of_ops (noDefer_spec hd) hQ _ _ _ (wpAny_sound ops.size t _ a _ h)
theorem region_in_round_seqT {l n id : Nat} {P : Program} {ops : Array Oper} {Q : Exit → Act → World → Prop} {a : Act} {w : World} (T U need : Nat → Bool) (order : List Nat) (S : World → Prop) (hm : P.follows .mixedOrders = true) (hsel : Region.noSelect ops = true) (hlen : order.length = ops.size)
    (hc : seqOkT ops T U need order (Array.replicate ops.size false) = true) (hd : noDefer ops = true) (hQ : ¬ LetsOut Q) (h : wpSeq P ops Q S T U need order a w.drew) : (Code.region id ops true).wpIn (Fence.wide.inRound l) n P Q a w :=
  region_in_round hm hd hQ (by have := wpAny_of_G _ _ _ _ (wpAnyG_of_seqT hsel order _ a w.drew hc h); rw [hlen] at this; exact this)
theorem calls_of_marks {P : Program} {f : FuncId} {fn : Func} {c : Code} {args : Array Value} {w : World} {R : Ending → World → Prop} (hf : P.funcs[f]? = some fn) (hb : fn.body = some c)
    (h : c.wp P (bodyPostM Fence.wide 8 P fn R) { tmps := args ++ Array.replicate (fn.ntmps - args.size) undef, defers := [] } w) : Calls P f args w R :=
  (callsIn_wide (n := 8)).1 (callsIn_of_wp_marks hf hb trivial (wpIn_wide.2 h) rfl)


/-! ### a map that counts -/
def upd {α : Type} (f : Int → α) (k : Int) (v : α) : Int → α := fun x => if x = k then v else f x
theorem upd_same {α : Type} (f : Int → α) (k : Int) (v : α) : upd f k v k = v := by simp [upd]
theorem upd_ne {α : Type} (f : Int → α) {k x : Int} (v : α) (h : x ≠ k) : upd f k v x = f x := by simp [upd, h]
def CMap (w : World) (b : Nat) (c : Int → Int) : Prop := ∃ f, IMap w b f ∧ ∀ k, (f k = none ∧ c k = 0) ∨ f k = some (.int .i64 (c k))
theorem CMap.new (w : World) : CMap (w.alloc (.map #[] 0)) w.heap.size (fun _ => 0) := ⟨_, IMap.new w, fun _ => .inl ⟨rfl, rfl⟩⟩
theorem CMap.new_at (w : World) {b : Nat} (h : b = w.heap.size) : CMap (w.alloc (.map #[] 0)) b (fun _ => 0) := by subst h; exact CMap.new w
theorem IMap.new_at (w : World) {b : Nat} (h : b = w.heap.size) : IMap (w.alloc (.map #[] 0)) b (fun _ => none) := by subst h; exact IMap.new w
theorem CMap.alloc {w : World} {b : Nat} {c : Int → Int} (h : CMap w b c) (o : Obj) : CMap (w.alloc o) b c := by obtain ⟨f, h, h2⟩ := h; exact ⟨f, h.alloc o, h2⟩
theorem CMap.lt {w : World} {b : Nat} {c : Int → Int} (h : CMap w b c) : b < w.heap.size := by obtain ⟨f, h, _⟩ := h; exact h.lt
theorem CMap.keep {w w' : World} {b : Nat} {c : Int → Int} (h : CMap w b c) (k : w'.heap[b]? = w.heap[b]?) : CMap w' b c := by obtain ⟨f, h, h2⟩ := h; exact ⟨f, h.keep k, h2⟩
theorem CMap.look {w : World} {b : Nat} {c : Int → Int} (h : CMap w b c) (k : Int) (hk : I64 k) :
    (Instr.lookup 83 (.map (some b)) (.int .i64 k) false).run Try.prog w = .ok (.int .i64 (c k)) w := by
  obtain ⟨f, h, h2⟩ := h
  have := h.look (t := 83) Try.underlying83 (z := .int .i64 0) (by kernel_rfl) k hk
  rw [this]
  rcases h2 k with ⟨e1, e2⟩ | e1
  · rw [e1, e2]; rfl
  · rw [e1]; rfl
theorem CMap.store {w : World} {b : Nat} {c : Int → Int} (h : CMap w b c) (k : Int) (hk : I64 k) (x : Int) :
    ∃ w', (Instr.mapUpdate 83 (.map (some b)) (.int .i64 k) (.int .i64 x)).run Try.prog w = .ok () w' ∧ CMap w' b (upd c k x) ∧ w.grownBy w' (some b) ∧ w'.heap.size = w.heap.size := by
  obtain ⟨f, h, h2⟩ := h
  obtain ⟨w', h3, h4, h5, h6⟩ := h.store (t := 83) Try.underlying83 k hk (.int .i64 x)
  refine ⟨w', h3, ⟨_, h4, fun k' => ?_⟩, h5, h6⟩
  by_cases e : k' = k
  · subst e; right; simp [upd]
  · rw [upd_ne _ _ e]; simpa [e] using h2 k'
end Go.Proofs.Ytoklllbaihccnaa
