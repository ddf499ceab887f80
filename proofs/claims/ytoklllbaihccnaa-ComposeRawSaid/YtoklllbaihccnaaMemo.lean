/- Words for memory: a slice that reads as a list of cells (nil let in), a block that is known whole, a frame that names which blocks may have changed. Lemmas alone, after the guide's own 'extra words'. · append onto a row of the call's own, the source nil, empty or not: after the guide's own words, over 'Reads' of Mem. · Data that lie in memory: a representation says which cells a datum has, through which element types it is read, and that it stays as long as those blocks do. Lemmas alone. -/
import Derived.Below
import Derived.Laws.OwnMore
import Derived.Deep.AppendLies
import Derived.Deep.Draws
import Derived.Laws.Rows
import Derived.WalkKit
import Derived.WalkSpells
import Derived.WalkLawsBesides
import Derived.Lib.Hide
import Derived.Maps.AppendAt
import Derived.RegionTactic
import Derived.OwnWalk
namespace Go.Proofs.Ytoklllbaihccnaa
open Go.RowKit

theorem ret_int {k : IntKind} {a b : Int} (h : a = b) : Ending.returned (.int k a) = .returned (.int k b) := by rw [h]
theorem ret_bool {a b : Bool} (h : a = b) : Ending.returned (.bool a) = .returned (.bool b) := by rw [h]

theorem bcell {W w1 : World} {B : Nat} (hb : Below B W w1) : (∀ b o, b < B → w1.cell? ⟨b, o, none⟩ = W.cell? ⟨b, o, none⟩) ∧ (∀ b o, b < B → w1.frozen? ⟨b, o, none⟩ = W.frozen? ⟨b, o, none⟩) :=
  ⟨fun b o h => hb.cell (p := ⟨b, o, none⟩) h, fun b o h => hb.frozen (p := ⟨b, o, none⟩) h⟩

theorem block_of_add (a : Addr) (n : Nat) : (a.add n).block = a.block := by unfold Addr.add; split <;> rfl
theorem add_of_add (a : Addr) (i j : Nat) : (a.add i).add j = a.add (i + j) := by
  unfold Addr.add
  by_cases hi : i = 0 <;> by_cases hj : j = 0 <;> simp [hi, hj, Nat.add_assoc]

/-- the slice value '.slice A n c' holds the cells xs ('size' cells an element) and lies below block B -/
def Reads (w : World) (B size : Nat) (A : Option Addr) (n : Nat) (xs : List Value) : Prop :=
  xs.length = n * size ∧ (0 < n → ∃ b off, A = some ⟨b, off, none⟩ ∧ b < B ∧ ∀ j u, xs[j]? = some u → w.cell? ⟨b, off + j, none⟩ = some u)

section
variable {w w' : World} {B B' size n : Nat} {A : Option Addr} {xs : List Value}
theorem Reads.none_ : Reads w B size A 0 [] := ⟨by simp, fun h => absurd h (by omega)⟩
theorem Reads.keep (h : Reads w B size A n xs) (hk : ∀ p : Addr, p.block < B → w'.cell? p = w.cell? p) : Reads w' B size A n xs :=
  ⟨h.1, fun hn => by
    obtain ⟨b, off, e, hb, hc⟩ := h.2 hn
    exact ⟨b, off, e, hb, fun j u hu => (hk _ hb).trans (hc j u hu)⟩⟩
theorem Reads.more (h : Reads w B size A n xs) (hB : B ≤ B') : Reads w B' size A n xs :=
  ⟨h.1, fun hn => by
    obtain ⟨b, off, e, hb, hc⟩ := h.2 hn
    exact ⟨b, off, e, by omega, hc⟩⟩
theorem Reads.below (h : Reads w B size A n xs) {C : Nat} (hb : Below C w w') (hC : B ≤ C) : Reads w' B size A n xs := h.keep fun _ hp => hb.cell (by omega)
theorem Reads.drewN (h : Reads w B size A n xs) (k : Nat) : Reads (w.drewN k) B size A n xs := h
theorem Reads.alloc (h : Reads w B size A n xs) (hB : B ≤ w.heap.size) (o : Obj) : Reads (w.alloc o) B size A n xs := h.keep fun p hp => World.cell?_alloc_lt w o p (by omega)
theorem Reads.setCell (h : Reads w B size A n xs) {p : Addr} (hB : B ≤ p.block) (u : Value) : Reads (w.setCell p u) B size A n xs :=
  h.keep fun q hq => World.cell?_setCell_other w p q u (fun e => by subst e; omega)
theorem Reads.of_own {base : Nat} {e : TypeId} {c : Nat} (h : w.ownsRow base e size (.slice A n c) n xs) : Reads w w.heap.size size A n xs := by
  refine ⟨h.1, fun hn => ?_⟩
  obtain ⟨g, cap, hv, _, hlt⟩ := h.form hn
  have hA : A = some ⟨g, 0, none⟩ := by injection hv
  subst hA
  refine ⟨_, _, rfl, hlt, fun j u hu => ?_⟩
  have := h.cells (g := g) rfl j u hu
  unfold Addr.add at this
  split at this <;> simp_all
end

/-- block g is just the cells cs of element type t, none frozen -/
def Blk (w : World) (g : Nat) (t : TypeId) (cs : Array Value) : Prop := w.heap[g]? = some (.cells cs t (0, 0))

section
variable {w w' : World} {g : Nat} {t : TypeId} {cs : Array Value}
theorem Blk.lt (h : Blk w g t cs) : g < w.heap.size := by
  rcases Nat.lt_or_ge g w.heap.size with hlt | hge
  · exact hlt
  · unfold Blk at h; rw [Array.getElem?_eq_none hge] at h; cases h
theorem Blk.cell (h : Blk w g t cs) (i : Nat) : w.cell? ⟨g, i, none⟩ = cs[i]? := cell_of_row w g i cs t (0, 0) h
theorem Blk.frozen (h : Blk w g t cs) (i : Nat) : w.frozen? ⟨g, i, none⟩ = false := by
  unfold Blk at h
  simp [World.frozen?, h]
theorem Blk.new (w : World) (t : TypeId) (cs : Array Value) : Blk (w.alloc (.cells cs t)) w.heap.size t cs := heap_alloc_new w _
theorem Blk.new_at (w : World) (t : TypeId) (cs : Array Value) (h : g = w.heap.size) : Blk (w.alloc (.cells cs t)) g t cs := by subst h; exact Blk.new w t cs
theorem Blk.drew (h : Blk w g t cs) : Blk w.drew g t cs := h
theorem Blk.drewN (h : Blk w g t cs) (n : Nat) : Blk (w.drewN n) g t cs := h
theorem Blk.alloc (h : Blk w g t cs) (o : Obj) : Blk (w.alloc o) g t cs := (Below.heap_alloc w o g h.lt).trans h
theorem Blk.set_ (h : Blk w g t cs) (i : Nat) (u : Value) : Blk (w.setCell ⟨g, i, none⟩ u) g t (cs.setIfInBounds i u) := by
  unfold Blk at h ⊢
  simp [World.setCell, Array.getElem?_modify, h]
theorem Blk.far (h : Blk w g t cs) {p : Addr} (hp : g ≠ p.block) (u : Value) : Blk (w.setCell p u) g t cs := (Below.heap_setCell w p u g hp).trans h
theorem Blk.below {B : Nat} (h : Blk w g t cs) (hb : Below B w w') (hg : g < B) : Blk w' g t cs := (hb.block g hg).trans h
theorem Blk.grown {row : Option Nat} (h : Blk w g t cs) (hb : w.grownBy w' row) (hg : some g ≠ row) : Blk w' g t cs := (hb.block g h.lt hg).trans h
theorem Blk.ne_ {g' : Nat} {t' : TypeId} {cs' : Array Value} (h : Blk w g t cs) (h' : Blk w g' t' cs') (hne : t ≠ t') : g ≠ g' := by
  rintro rfl
  unfold Blk at h h'
  rw [h] at h'
  injection h' with h'
  injection h' with _ ht
  exact hne ht
end

theorem lts {P n : Nat} (h : P < n) : P < n + 1 ∧ P < n + 1 + 1 ∧ P < n + 1 + 1 + 1 ∧ P < n + 1 + 1 + 1 + 1 ∧ P < n + 1 + 1 + 1 + 1 + 1 ∧ P < n + 1 + 1 + 1 + 1 + 1 + 1 ∧ P < n + 1 + 1 + 1 + 1 + 1 + 1 + 1 ∧ P < n + 1 + 1 + 1 + 1 + 1 + 1 + 1 + 1 ∧ P < n + 1 + 1 + 1 + 1 + 1 + 1 + 1 + 1 + 1 ∧ P < n + 1 + 1 + 1 + 1 + 1 + 1 + 1 + 1 + 1 + 1 := by omega

/-- what is no block of S lies as it lay; new blocks may have come -/
structure Fr (S : Nat → Prop) (w w' : World) : Prop where
  os : w'.os = w.os
  tape : w'.tape = w.tape
  output : w'.output = w.output
  size : w.heap.size ≤ w'.heap.size
  block : ∀ k, k < w.heap.size → ¬ S k → w'.heap[k]? = w.heap[k]?

section
variable {S : Nat → Prop} {w w' w'' : World}
theorem Fr.refl (S : Nat → Prop) (w : World) : Fr S w w := ⟨rfl, rfl, rfl, Nat.le_refl _, fun _ _ _ => rfl⟩
theorem Fr.trans (h : Fr S w w') (k : Fr S w' w'') : Fr S w w'' :=
  ⟨k.os.trans h.os, k.tape.trans h.tape, k.output.trans h.output, Nat.le_trans h.size k.size, fun i hi hs => (k.block i (Nat.lt_of_lt_of_le hi h.size) hs).trans (h.block i hi hs)⟩
theorem Fr.of_below {B : Nat} (h : Below B w w') (hS : ∀ k, k < w.heap.size → ¬ S k → k < B) : Fr S w w' := ⟨h.os, h.tape, h.output, h.size, fun k hk hs => h.block k (hS k hk hs)⟩
theorem Fr.mono {S' : Nat → Prop} (h : Fr S w w') (hS : ∀ k, k < w.heap.size → S k → S' k) : Fr S' w w' := ⟨h.os, h.tape, h.output, h.size, fun k hk hs => h.block k hk (fun a => hs (hS k hk a))⟩
theorem Fr.below {B : Nat} (h : Fr S w w') (hB : B ≤ w.heap.size) (hS : ∀ k, k < B → ¬ S k) : Below B w w' := ⟨h.os, h.tape, h.output, h.size, fun k hk => h.block k (by omega) (hS k hk)⟩
theorem Fr.drew (h : Fr S w w') : Fr S w w'.drew := h.trans ⟨rfl, rfl, rfl, Nat.le_refl _, fun _ _ _ => rfl⟩
theorem Fr.drewN (h : Fr S w w') (n : Nat) : Fr S w (w'.drewN n) := h.trans ⟨rfl, rfl, rfl, Nat.le_refl _, fun _ _ _ => rfl⟩
theorem Fr.alloc (h : Fr S w w') (o : Obj) : Fr S w (w'.alloc o) := h.trans ⟨rfl, rfl, rfl, by simp, fun k hk _ => Below.heap_alloc _ _ _ hk⟩
theorem Fr.setCell (h : Fr S w w') {p : Addr} (hp : S p.block ∨ w.heap.size ≤ p.block) (u : Value) : Fr S w (w'.setCell p u) :=
  ⟨h.os, h.tape, h.output, by simpa [World.setCell] using h.size, fun k hk hs => by
    rw [Below.heap_setCell _ _ _ _ (by rintro rfl; rcases hp with hp | hp; exact hs hp; omega)]
    exact h.block k hk hs⟩
theorem Fr.blk {g : Nat} {t : TypeId} {cs : Array Value} (h : Fr S w w') (hb : Blk w g t cs) (hs : ¬ S g) : Blk w' g t cs := (h.block g hb.lt hs).trans hb
theorem Fr.cell {p : Addr} (h : Fr S w w') (hp : p.block < w.heap.size) (hs : ¬ S p.block) : w'.cell? p = w.cell? p := World.cell?_of_block (w := w) (h.block p.block hp hs)
theorem Fr.frozen {p : Addr} (h : Fr S w w') (hp : p.block < w.heap.size) (hs : ¬ S p.block) : w'.frozen? p = w.frozen? p := World.frozen?_of_block (w := w) (h.block p.block hp hs)
theorem Fr.reads {B size n : Nat} {A : Option Addr} {xs : List Value} (h : Fr S w w') (hr : Reads w B size A n xs) (hB : B ≤ w.heap.size) (hs : ∀ k, k < B → ¬ S k) : Reads w' B size A n xs :=
  hr.keep fun _ hp => h.cell (by omega) (hs _ hp)
end
end Go.Proofs.Ytoklllbaihccnaa
namespace Go.Proofs.Ytoklllbaihccnaa
open Go.RowKit

section
variable {P : Program} (w : World)

theorem run_append_of_nil (base : Nat) (t ty e : TypeId) (i : TypeInfo) (size : Nat) (ht : P.underlying t = some (.slice e)) (hi : P.info? e = some i)
    (v : Value) (n : Nat) (xs : List Value) (hown : w.ownsRow base e size v n xs) (c : Nat) : (Builtin.append_ #[t, t] ty #[v, .slice none 0 c]).run P w = .ok v w := by
  rcases hown.2 with ⟨rfl, rfl⟩ | ⟨g, cap, cur, rfl, _, _, hnc, _⟩
  · simp [Builtin.append_, run_underlying ht, sizeOf, typeInfo, hi, Builtin.lenOf, Builtin.firstCells]
  · simp [Builtin.append_, run_underlying ht, sizeOf, typeInfo, hi, Builtin.lenOf, Builtin.firstCells, hnc, storeCells]

theorem run_append_any (base : Nat) (t ty e : TypeId) (i : TypeInfo) (z : Value) (size bytes : Nat) (ht : P.underlying t = some (.slice e)) (hi : P.info? e = some i) (hz : i.zero = some z)
    (hsize : i.size = size) (hby : i.bytes = bytes) (hzs : z.cells.size = size) (hsz : 0 < size)
    (v : Value) (n : Nat) (xs : List Value) (hown : w.ownsRow base e size v n xs)
    (B : Nat) (A : Option Addr) (m c : Nat) (news : List Value) (hr : Reads w B size A m news) (h1 : ∀ u ∈ news, u.oneCell' = true)
    (h63 : n + m ≤ maxLen) (hbytes : (n + m) * bytes ≤ 140737488355328) (hbase : base ≤ w.heap.size) :
    ∃ v' w', (Builtin.append_ #[t, t] ty #[v, .slice A m c]).run P w = .ok v' w' ∧ w'.ownsRow base e size v' (n + m) (xs ++ news) ∧ w.grownBy w' v.ownBlock ∧
      (v'.ownBlock = v.ownBlock ∨ v'.ownBlock = some w.heap.size) := by
  rcases A with _ | ad
  · have hm : m = 0 := by
      rcases Nat.eq_zero_or_pos m with h0 | h0
      · exact h0
      · obtain ⟨b, off, h, _⟩ := hr.2 h0
        cases h
    subst hm
    have hn : news = [] := List.eq_nil_of_length_eq_zero (by simpa using hr.1)
    subst hn
    exact ⟨v, w, run_append_of_nil w base t ty e i size ht hi v n xs hown c, by simpa using hown, World.grownBy.refl w _, .inl rfl⟩
  · have hcells : ∀ j u, news[j]? = some u → w.cell? (ad.add j) = some u := by
      intro j u hu
      rcases Nat.eq_zero_or_pos m with h0 | h0
      · subst h0
        have hn : news = [] := List.eq_nil_of_length_eq_zero (by simpa using hr.1)
        subst hn
        simp at hu
      · obtain ⟨b, off, h, _, hc⟩ := hr.2 h0
        injection h with h
        subst h
        have := hc j u hu
        unfold Addr.add
        split
        · rename_i hj; subst hj; simpa using this
        · simpa using this
    obtain ⟨v', w', hrun, h2, h3, _, h5⟩ := run_append_own_at (P := P) w base t ty e i z size bytes ht hi hz hsize hby hzs hsz v n xs hown ad m c news hr.1 hcells h1 h63 hbytes hbase
    exact ⟨v', w', hrun, h2, h3, h5⟩

theorem wp_append_any {o : Oper} {a : Act} {K : Act → World → Prop} {Q : Exit → Act → World → Prop} (s x : Operand) (t : TypeId)
    (ho : o.op = .call { callee := .builtin .append, args := #[s, x], argTypes := #[t, t] })
    (base : Nat) (e : TypeId) (i : TypeInfo) (z : Value) (size bytes : Nat) (ht : P.underlying t = some (.slice e)) (hi : P.info? e = some i) (hz : i.zero = some z)
    (hsize : i.size = size) (hby : i.bytes = bytes) (hzs : z.cells.size = size) (hsz : 0 < size)
    (v : Value) (n : Nat) (xs : List Value) (hs : a.eval s = v) (hown : w.ownsRow base e size v n xs)
    (B : Nat) (A : Option Addr) (m c : Nat) (news : List Value) (hx : a.eval x = .slice A m c) (hr : Reads w B size A m news) (h1 : ∀ u ∈ news, u.oneCell' = true)
    (h63 : n + m ≤ maxLen) (hbytes : (n + m) * bytes ≤ 140737488355328) (hbase : base ≤ w.heap.size)
    (h : ∀ v' w', w'.ownsRow base e size v' (n + m) (xs ++ news) → w.grownBy w' v.ownBlock → (v'.ownBlock = v.ownBlock ∨ v'.ownBlock = some w.heap.size) → K (a.put o.dst v') w') : o.wp P a w K Q := by
  obtain ⟨v', w', hrun, h2, h3, h4⟩ := run_append_any (P := P) w base t o.type e i z size bytes ht hi hz hsize hby hzs hsz v n xs hown B A m c news hr h1 h63 hbytes hbase
  unfold Oper.wp execOp
  simp only [ho, resolve, invoke, builtin, Sem.run_bind, Sem.run_pure, Result.andThen_ok, List.map_toArray, List.map_cons, List.map_nil, hs, hx, hrun]
  exact h v' w' h2 h3 h4

theorem wpList_append_any {ops : Array Oper} {rest : List Oper} {o : Oper} {a : Act} {Q : Exit → Act → World → Prop} (hgd : o.guard = none) (s x : Operand) (t : TypeId)
    (ho : o.op = .call { callee := .builtin .append, args := #[s, x], argTypes := #[t, t] })
    (base : Nat) (e : TypeId) (i : TypeInfo) (z : Value) (size bytes : Nat) (ht : P.underlying t = some (.slice e)) (hi : P.info? e = some i) (hz : i.zero = some z)
    (hsize : i.size = size) (hby : i.bytes = bytes) (hzs : z.cells.size = size) (hsz : 0 < size)
    (v : Value) (n : Nat) (xs : List Value) (hs : a.eval s = v) (hown : w.ownsRow base e size v n xs)
    (B : Nat) (A : Option Addr) (m c : Nat) (news : List Value) (hx : a.eval x = .slice A m c) (hr : Reads w B size A m news) (h1 : ∀ u ∈ news, u.oneCell' = true)
    (h63 : n + m ≤ maxLen) (hbytes : (n + m) * bytes ≤ 140737488355328) (hbase : base ≤ w.heap.size)
    (h : ∀ v' w', w'.ownsRow base e size v' (n + m) (xs ++ news) → w.grownBy w' v.ownBlock → (v'.ownBlock = v.ownBlock ∨ v'.ownBlock = some w.heap.size) → wpList P ops Q rest (a.put o.dst v') w') : wpList P ops Q (o :: rest) a w :=
  wpList_plain hgd fun _ hK => wp_append_any w s x t ho base e i z size bytes ht hi hz hsize hby hzs hsz v n xs hs hown B A m c news hx hr h1 h63 hbytes hbase fun v' w' h2 h3 h4 => hK _ _ (h v' w' h2 h3 h4)
end

/-- a new block of just one element's cells, as a source -/
theorem Reads.one_new (w : World) (e : TypeId) (cs : List Value) : Reads (w.alloc (.cells cs.toArray e)) (w.heap.size + 1) cs.length (some ⟨w.heap.size, 0, none⟩) 1 cs :=
  ⟨by simp, fun _ => ⟨_, _, rfl, by omega, fun j u hu => by rw [Nat.zero_add, World.cell?_alloc_new]; simpa using hu⟩⟩
/-- an owned row stays owned -/
theorem ownsRow_below {w w' : World} {base : Nat} {e : TypeId} {size n B : Nat} {v : Value} {xs : List Value} (h : w.ownsRow base e size v n xs) (hb : Below B w w') (hB : w.heap.size ≤ B) : w'.ownsRow base e size v n xs := by
  refine ⟨h.1, ?_⟩
  rcases h.2 with h | ⟨g, cap, cur, hv, hg, hh, hr⟩
  · exact .inl h
  · refine .inr ⟨g, cap, cur, hv, hg, ?_, hr⟩
    have hlt : g < w.heap.size := (Array.getElem?_eq_some_iff.1 hh).1
    exact (hb.block g (by omega)).trans hh
end Go.Proofs.Ytoklllbaihccnaa
namespace Go.Proofs.Ytoklllbaihccnaa
open Go.RowKit

/-- a number that an int can be -/
def I64 (n : Int) : Prop := -9223372036854775808 ≤ n ∧ n ≤ 9223372036854775807
/-- how data of a type lie in cells: 'rel w B a cs': the cells cs hold a; what they point to lies below block B, in blocks below N0, or else in such whose element types are of tys -/
structure Repr (N0 : Nat) (α : Type) where
  size : Nat
  tys : List TypeId
  rel : World → Nat → α → List Value → Prop
  len : ∀ {w B a cs}, rel w B a cs → cs.length = size
  keep : ∀ {w w' B a cs}, rel w B a cs → (∀ (g : Nat) (t : TypeId) (xs : Array Value) (fz : Nat × Nat), g < B → (g < N0 ∨ t ∈ tys) → w.heap[g]? = some (.cells xs t fz) → w'.heap[g]? = some (.cells xs t fz)) → rel w' B a cs
  more : ∀ {w B B' a cs}, rel w B a cs → B ≤ B' → rel w B' a cs
  one : ∀ {w B a cs}, rel w B a cs → ∀ u ∈ cs, u.oneCell' = true

theorem Repr.below {N0 : Nat} {α : Type} (R : Repr N0 α) {w w' : World} {B C : Nat} {a : α} {cs : List Value} (h : R.rel w B a cs) (hb : Below C w w') (hC : B ≤ C) : R.rel w' B a cs :=
  R.keep h fun g _ _ _ hg _ hh => by rw [hb.block g (by omega)]; exact hh
theorem Repr.grown {N0 : Nat} {α : Type} (R : Repr N0 α) {w w' : World} {B : Nat} {a : α} {cs : List Value} (h : R.rel w B a cs) {row : Option Nat} (hg : w.grownBy w' row)
    (hr : ∀ (g : Nat) (t : TypeId) (xs : Array Value) (fz : Nat × Nat), row = some g → w.heap[g]? = some (.cells xs t fz) → N0 ≤ g ∧ t ∉ R.tys) : R.rel w' B a cs :=
  R.keep h fun g t xs fz _ ht hh => by
    have hlt : g < w.heap.size := (Array.getElem?_eq_some_iff.1 hh).1
    rw [hg.block g hlt (fun e => by obtain ⟨h1, h2⟩ := hr g t xs fz e.symm hh; rcases ht with ht | ht; omega; exact h2 ht)]; exact hh

def Repr.int {N0 : Nat} : Repr N0 Int where
  size := 1
  tys := []
  rel _ _ n cs := cs = [.int .i64 n] ∧ I64 n
  len h := by obtain ⟨rfl, _⟩ := h; rfl
  keep h _ := h
  more h _ := h
  one h := by obtain ⟨rfl, _⟩ := h; simp [Value.oneCell']
def Repr.bool {N0 : Nat} : Repr N0 Bool where
  size := 1
  tys := []
  rel _ _ n cs := cs = [.bool n]
  len h := by subst h; rfl
  keep h _ := h
  more h _ := h
  one h := by subst h; simp [Value.oneCell']
def Repr.str {N0 : Nat} : Repr N0 ByteArray where
  size := 1
  tys := []
  rel _ _ n cs := cs = [.string n]
  len h := by subst h; rfl
  keep h _ := h
  more h _ := h
  one h := by subst h; simp [Value.oneCell']
def Repr.pair {N0 : Nat} {α β : Type} (R : Repr N0 α) (S : Repr N0 β) : Repr N0 (α × β) where
  size := R.size + S.size
  tys := R.tys ++ S.tys
  rel w B a cs := ∃ x y, cs = x ++ y ∧ R.rel w B a.1 x ∧ S.rel w B a.2 y
  len h := by obtain ⟨x, y, rfl, h1, h2⟩ := h; rw [List.length_append, R.len h1, S.len h2]
  keep h k := by
    obtain ⟨x, y, rfl, h1, h2⟩ := h
    exact ⟨x, y, rfl, R.keep h1 fun g t xs fz hg ht => k g t xs fz hg (ht.imp_right (List.mem_append_left _)), S.keep h2 fun g t xs fz hg ht => k g t xs fz hg (ht.imp_right (List.mem_append_right _))⟩
  more h hB := by obtain ⟨x, y, rfl, h1, h2⟩ := h; exact ⟨x, y, rfl, R.more h1 hB, S.more h2 hB⟩
  one h := by
    obtain ⟨x, y, rfl, h1, h2⟩ := h
    intro u hu
    rcases List.mem_append.1 hu with hu | hu
    · exact R.one h1 u hu
    · exact S.one h2 u hu
def Repr.map {N0 : Nat} {α β : Type} (f : β → α) (R : Repr N0 α) : Repr N0 β where
  size := R.size
  tys := R.tys
  rel w B a cs := R.rel w B (f a) cs
  len h := R.len h
  keep h k := R.keep h k
  more h hB := R.more h hB
  one h := R.one h

theorem flatten_get {n : Nat} : ∀ (css : List (List Value)), (∀ cs ∈ css, cs.length = n) → css.flatten.length = css.length * n ∧ ∀ (i j : Nat) (cs : List Value) u, css[i]? = some cs → cs[j]? = some u → css.flatten[i * n + j]? = some u
  | [], _ => ⟨by simp, fun i j cs u h => by simp at h⟩
  | x :: r, h => by
    obtain ⟨i1, i2⟩ := flatten_get r fun cs hcs => h cs (List.mem_cons_of_mem _ hcs)
    have hx := h x List.mem_cons_self
    refine ⟨by rw [List.flatten_cons, List.length_append, i1, hx, List.length_cons, Nat.succ_mul]; omega, fun i j cs u hi hj => ?_⟩
    rw [List.flatten_cons]
    cases i with
    | zero =>
      simp only [List.getElem?_cons_zero, Option.some.injEq] at hi
      subst hi
      rw [Nat.zero_mul, Nat.zero_add, List.getElem?_append_left (List.getElem?_eq_some_iff.1 hj).1]
      exact hj
    | succ i =>
      simp only [List.getElem?_cons_succ] at hi
      rw [List.getElem?_append_right (by rw [Nat.succ_mul]; omega), show (i + 1) * n + j - x.length = i * n + j by rw [Nat.succ_mul]; omega]
      exact i2 i j cs u hi hj

/-- the elements of l lie from A on, in a block of element type t -/
def RowAt {N0 : Nat} {α : Type} (R : Repr N0 α) (t : TypeId) (w : World) (B : Nat) (A : Option Addr) (l : List α) : Prop :=
  ∃ css : List (List Value), css.length = l.length ∧ (∀ (i : Nat) a cs, l[i]? = some a → css[i]? = some cs → R.rel w B a cs) ∧
    (0 < l.length → ∃ b off xs t' fz, A = some ⟨b, off, none⟩ ∧ b < B ∧ (b < N0 ∨ t' = t) ∧ w.heap[b]? = some (.cells xs t' fz) ∧ ∀ (i j : Nat) (cs : List Value) u, css[i]? = some cs → cs[j]? = some u → xs[off + i * R.size + j]? = some u)

theorem RowAt.keep {N0 : Nat} {α : Type} {R : Repr N0 α} {t : TypeId} {w w' : World} {B : Nat} {A : Option Addr} {l : List α} (h : RowAt R t w B A l)
    (k : ∀ (g : Nat) (t' : TypeId) (xs : Array Value) (fz : Nat × Nat), g < B → (g < N0 ∨ t' ∈ t :: R.tys) → w.heap[g]? = some (.cells xs t' fz) → w'.heap[g]? = some (.cells xs t' fz)) : RowAt R t w' B A l := by
  obtain ⟨css, h1, h2, h3⟩ := h
  refine ⟨css, h1, fun i a cs ha hc => R.keep (h2 i a cs ha hc) fun g t' xs fz hg ht => k g t' xs fz hg (ht.imp_right (List.mem_cons_of_mem _)), fun hl => ?_⟩
  obtain ⟨b, off, xs, t', fz, e, hb, ht, hh, hc⟩ := h3 hl
  exact ⟨b, off, xs, t', fz, e, hb, ht, k b t' xs fz hb (ht.imp_right fun (e : t' = t) => by rw [e]; exact List.mem_cons_self) hh, hc⟩
theorem RowAt.more {N0 : Nat} {α : Type} {R : Repr N0 α} {t : TypeId} {w : World} {B B' : Nat} {A : Option Addr} {l : List α} (h : RowAt R t w B A l) (hB : B ≤ B') : RowAt R t w B' A l := by
  obtain ⟨css, h1, h2, h3⟩ := h
  refine ⟨css, h1, fun i a cs ha hc => R.more (h2 i a cs ha hc) hB, fun hl => ?_⟩
  obtain ⟨b, off, xs, t', fz, e, hb, ht, hh, hc⟩ := h3 hl
  exact ⟨b, off, xs, t', fz, e, by omega, ht, hh, hc⟩
theorem RowAt.below {N0 : Nat} {α : Type} {R : Repr N0 α} {t : TypeId} {w w' : World} {B C : Nat} {A : Option Addr} {l : List α} (h : RowAt R t w B A l) (hb : Below C w w') (hC : B ≤ C) : RowAt R t w' B A l :=
  h.keep fun g _ _ _ hg _ hh => by rw [hb.block g (by omega)]; exact hh
/-- one by one -/
def Alls {N0 : Nat} {α : Type} (R : Repr N0 α) (w : World) (B : Nat) : List α → List (List Value) → Prop
  | [], [] => True
  | a :: l, c :: cs => R.rel w B a c ∧ Alls R w B l cs
  | _, _ => False
theorem Alls.at {N0 : Nat} {α : Type} {R : Repr N0 α} {w : World} {B : Nat} : ∀ {l : List α} {css : List (List Value)}, Alls R w B l css → css.length = l.length ∧ ∀ (i : Nat) a cs, l[i]? = some a → css[i]? = some cs → R.rel w B a cs
  | [], [], _ => ⟨rfl, fun i a cs h => by simp at h⟩
  | a :: l, c :: cs, h => by
    obtain ⟨h1, h2⟩ := h.2.at
    refine ⟨by simp [h1], fun i a' cs' ha hc => ?_⟩
    cases i with
    | zero => simp only [List.getElem?_cons_zero, Option.some.injEq] at ha hc; subst ha hc; exact h.1
    | succ i => simp only [List.getElem?_cons_succ] at ha hc; exact h2 i a' cs' ha hc
  | [], _ :: _, h => h.elim
  | _ :: _, [], h => h.elim
theorem RowAt.nil {N0 : Nat} {α : Type} (R : Repr N0 α) (t : TypeId) (w : World) (B : Nat) (A : Option Addr) : RowAt R t w B A [] := ⟨[], rfl, fun i a cs h => by simp at h, fun h => by simp at h⟩

def Repr.row {N0 : Nat} {α : Type} (t : TypeId) (R : Repr N0 α) : Repr N0 (List α) where
  size := 1
  tys := t :: R.tys
  rel w B l cs := ∃ A c, cs = [.slice A l.length c] ∧ l.length ≤ c ∧ c ≤ maxLen ∧ RowAt R t w B A l
  len h := by obtain ⟨A, c, rfl, _⟩ := h; rfl
  keep h k := by obtain ⟨A, c, rfl, h1, h2, h⟩ := h; exact ⟨A, c, rfl, h1, h2, h.keep k⟩
  more h hB := by obtain ⟨A, c, rfl, h1, h2, h⟩ := h; exact ⟨A, c, rfl, h1, h2, h.more hB⟩
  one h := by obtain ⟨A, c, rfl, _⟩ := h; simp [Value.oneCell']

theorem RowAt.of_blk {N0 : Nat} {α : Type} {R : Repr N0 α} {t : TypeId} {w : World} {B g : Nat} {l : List α} (css : List (List Value)) (hb : Blk w g t css.flatten.toArray) (hg : g < B) (h : Alls R w B l css) : RowAt R t w B (some ⟨g, 0, none⟩) l := by
  obtain ⟨h1, h2⟩ := h.at
  have hlen : ∀ cs ∈ css, cs.length = R.size := by
    intro cs hcs
    obtain ⟨i, hi⟩ := List.getElem?_of_mem hcs
    have hlt : i < css.length := (List.getElem?_eq_some_iff.1 hi).1
    exact R.len (h2 i (l[i]'(by omega)) cs (List.getElem?_eq_getElem (by omega)) hi)
  obtain ⟨f1, f2⟩ := flatten_get css hlen
  exact ⟨css, h1, h2, fun _ => ⟨g, 0, _, t, (0, 0), rfl, hg, .inr rfl, hb, fun i j cs u hi hj => by rw [Nat.zero_add]; simpa using f2 i j cs u hi hj⟩⟩

/-- an element of a row that lies: its cells -/
theorem RowAt.get {N0 : Nat} {α : Type} {R : Repr N0 α} {t : TypeId} {w : World} {B : Nat} {A : Option Addr} {l : List α} (h : RowAt R t w B A l) {i : Nat} {a : α} (ha : l[i]? = some a) :
    ∃ b off cs, A = some ⟨b, off, none⟩ ∧ b < B ∧ R.rel w B a cs ∧ ∀ (j : Nat) u, cs[j]? = some u → w.cell? ⟨b, off + i * R.size + j, none⟩ = some u := by
  obtain ⟨css, h1, h2, h3⟩ := h
  have hi : i < l.length := (List.getElem?_eq_some_iff.1 ha).1
  obtain ⟨b, off, xs, t', fz, rfl, hb, _, hh, hc⟩ := h3 (by omega)
  have hcs : css[i]? = some (css[i]'(by omega)) := List.getElem?_eq_getElem (by omega)
  refine ⟨b, off, _, rfl, hb, h2 i a _ ha hcs, fun j u hu => ?_⟩
  rw [cell_of_row w b _ xs t' fz hh]
  exact hc i j _ u hcs hu

/-- as cells one behind the other -/
theorem RowAt.reads {N0 : Nat} {α : Type} {R : Repr N0 α} {t : TypeId} {w : World} {B : Nat} {A : Option Addr} {l : List α} (h : RowAt R t w B A l) (f : α → List Value)
    (hf : ∀ a cs, R.rel w B a cs → cs = f a) : Reads w B R.size A l.length (l.flatMap f) := by
  obtain ⟨css, h1, h2, h3⟩ := h
  have e : css = l.map f := by
    refine List.ext_getElem? fun i => ?_
    rw [List.getElem?_map]
    rcases Nat.lt_or_ge i l.length with hi | hi
    · have hcs : css[i]? = some (css[i]'(by omega)) := List.getElem?_eq_getElem (by omega)
      have hl : l[i]? = some l[i] := List.getElem?_eq_getElem hi
      rw [hcs, hl, hf _ _ (h2 i _ _ hl hcs)]; rfl
    · rw [List.getElem?_eq_none (by omega), List.getElem?_eq_none hi]; rfl
  have hlen : ∀ (i : Nat) a, l[i]? = some a → (f a).length = R.size := by
    intro i a ha
    have hcs : css[i]? = some (f a) := by rw [e, List.getElem?_map, ha]; rfl
    exact R.len (h2 i a _ ha hcs)
  have key : ∀ (m : List α), (∀ a ∈ m, (f a).length = R.size) → (m.flatMap f).length = m.length * R.size ∧ ∀ (j : Nat) u, (m.flatMap f)[j]? = some u → ∃ i k a, m[i]? = some a ∧ (f a)[k]? = some u ∧ j = i * R.size + k := by
    intro m
    induction m with
    | nil => intro _; exact ⟨by simp, fun j u hu => by simp at hu⟩
    | cons x r ih =>
      intro hm
      obtain ⟨i1, i2⟩ := ih fun a ha => hm a (List.mem_cons_of_mem _ ha)
      have hx := hm x List.mem_cons_self
      refine ⟨by rw [List.flatMap_cons, List.length_append, i1, hx, List.length_cons, Nat.succ_mul]; omega, fun j u hu => ?_⟩
      rw [List.flatMap_cons] at hu
      rcases Nat.lt_or_ge j R.size with hj | hj
      · rw [List.getElem?_append_left (by omega)] at hu
        exact ⟨0, j, x, rfl, hu, by omega⟩
      · rw [List.getElem?_append_right (by omega), hx] at hu
        obtain ⟨i, k, a, ha, hk, hjk⟩ := i2 _ _ hu
        exact ⟨i + 1, k, a, ha, hk, by rw [Nat.succ_mul]; omega⟩
  obtain ⟨k1, k2⟩ := key l fun a ha => by obtain ⟨i, hi⟩ := List.getElem?_of_mem ha; exact hlen i a hi
  refine ⟨k1, fun hn => ?_⟩
  obtain ⟨b, off, xs, t', fz, rfl, hb, _, hh, hc⟩ := h3 hn
  refine ⟨b, off, rfl, hb, fun j u hu => ?_⟩
  obtain ⟨i, k, a, ha, hk, rfl⟩ := k2 j u hu
  rw [cell_of_row w b _ xs t' fz hh, ← Nat.add_assoc]
  exact hc i k (f a) u (by rw [e, List.getElem?_map, ha]; rfl) hk

/-- a row of the call's own that holds l; what its elements point to lies elsewhere -/
def OwnAt {N0 : Nat} {α : Type} (R : Repr N0 α) (t : TypeId) (base : Nat) (w : World) (v : Value) (l : List α) : Prop :=
  ∃ css : List (List Value), w.ownsRow base t R.size v l.length css.flatten ∧ css.length = l.length ∧ ∀ (i : Nat) a cs, l[i]? = some a → css[i]? = some cs → R.rel w w.heap.size a cs

section
variable {N0 : Nat} {α : Type} {R : Repr N0 α} {t : TypeId} {base : Nat} {w w' : World} {v : Value} {l : List α}
theorem OwnAt.cssLen {css : List (List Value)} (h1 : css.length = l.length) (h2 : ∀ (i : Nat) a cs, l[i]? = some a → css[i]? = some cs → R.rel w w.heap.size a cs) : ∀ cs ∈ css, cs.length = R.size := by
  intro cs hcs
  obtain ⟨i, hi⟩ := List.getElem?_of_mem hcs
  have hlt : i < css.length := (List.getElem?_eq_some_iff.1 hi).1
  exact R.len (h2 i (l[i]'(by omega)) cs (List.getElem?_eq_getElem (by omega)) hi)
theorem OwnAt.form (h : OwnAt R t base w v l) : ∃ A c, v = .slice A l.length c ∧ l.length ≤ c ∧ c ≤ maxLen ∧ RowAt R t w w.heap.size A l := by
  obtain ⟨css, ho, h1, h2⟩ := h
  have hlen := OwnAt.cssLen h1 h2
  obtain ⟨f1, f2⟩ := flatten_get css hlen
  rcases ho.2 with ⟨rfl, h0⟩ | ⟨g, cap, cur, rfl, hg, hh, hcap1, hcap2, _, htk⟩
  · have hl : l = [] := List.eq_nil_of_length_eq_zero h0
    subst hl
    exact ⟨none, 0, rfl, Nat.le_refl _, Nat.zero_le _, RowAt.nil _ _ _ _ _⟩
  · refine ⟨_, cap, rfl, hcap1, hcap2, css, h1, h2, fun hl => ⟨g, 0, cur, t, (0, 0), rfl, (Array.getElem?_eq_some_iff.1 hh).1, .inr rfl, hh, fun i j cs u hi hj => ?_⟩⟩
    have := f2 i j cs u hi hj
    rw [← htk, List.getElem?_take] at this
    split at this
    · rw [Nat.zero_add]; simpa using this
    · cases this
theorem OwnAt.rel (h : OwnAt R t base w v l) : (Repr.row t R).rel w w.heap.size l [v] := by
  obtain ⟨A, c, e, h1, h2, h'⟩ := h.form
  subst e
  exact ⟨A, c, rfl, h1, h2, h'⟩
theorem OwnAt.below (h : OwnAt R t base w v l) {B : Nat} (hb : Below B w w') (hB : w.heap.size ≤ B) : OwnAt R t base w' v l := by
  obtain ⟨css, ho, h1, h2⟩ := h
  exact ⟨css, ownsRow_below ho hb hB, h1, fun i a cs ha hc => R.more (R.below (h2 i a cs ha hc) hb (by omega)) hb.size⟩
theorem OwnAt.nil (R : Repr N0 α) (t : TypeId) (base : Nat) (w : World) : OwnAt R t base w (.slice none 0 0) [] := ⟨[], ⟨by simp, .inl ⟨rfl, rfl⟩⟩, rfl, fun i a cs h => by simp at h⟩
theorem OwnAt.block (h : OwnAt R t base w v l) {g : Nat} (hg : v.ownBlock = some g) : base ≤ g ∧ g < w.heap.size ∧ ∃ xs, w.heap[g]? = some (.cells xs t (0, 0)) := by
  obtain ⟨css, ho, _, _⟩ := h
  rcases ho.2 with ⟨rfl, _⟩ | ⟨g', cap, cur, rfl, hle, hh, _⟩
  · simp [Value.ownBlock] at hg
  · simp only [Value.ownBlock, Option.some.injEq] at hg
    subst hg
    exact ⟨hle, (Array.getElem?_eq_some_iff.1 hh).1, _, hh⟩
theorem OwnAt.mono {base' : Nat} (h : OwnAt R t base w v l) (hb : base' ≤ base) : OwnAt R t base' w v l := by
  obtain ⟨css, ho, h1, h2⟩ := h
  refine ⟨css, ⟨ho.1, ?_⟩, h1, h2⟩
  rcases ho.2 with h | ⟨g', cap, cur, hv, hle, hr⟩
  · exact .inl h
  · exact .inr ⟨g', cap, cur, hv, by omega, hr⟩
/-- it stays, where another row (or a cell) of another type is written -/
theorem OwnAt.grown (h : OwnAt R t base w v l) {row : Option Nat} (hg : w.grownBy w' row)
    (hr : ∀ (g : Nat) (t' : TypeId) (xs : Array Value) (fz : Nat × Nat), row = some g → w.heap[g]? = some (.cells xs t' fz) → N0 ≤ g ∧ t' ∉ t :: R.tys) : OwnAt R t base w' v l := by
  have hb := fun g => h.block (g := g)
  obtain ⟨css, ho, h1, h2⟩ := h
  refine ⟨css, ho.kept hg ?_, h1, fun i a cs ha hc => R.more (R.grown (h2 i a cs ha hc) hg fun g t' xs fz e hh => ⟨(hr g t' xs fz e hh).1, fun hm => (hr g t' xs fz e hh).2 (List.mem_cons_of_mem _ hm)⟩) hg.size⟩
  cases hv : v.ownBlock with
  | none => exact .inl rfl
  | some g =>
    refine .inr fun e => ?_
    obtain ⟨_, _, xs, hx⟩ := hb g hv
    exact (hr g t xs (0, 0) e.symm hx).2 List.mem_cons_self
theorem below_own {B : Nat} {a : World} (h : OwnAt R t base w v l) (hb : Below B a w) (hg : w.grownBy w' v.ownBlock) (hB : B ≤ w.heap.size) (hbase : B ≤ base) : Below B a w' :=
  hb.grown hg hB fun k hk => by obtain ⟨h1, _⟩ := h.block hk; omega
/-- what append has made of a row of the call's own and a new element -/
theorem OwnAt.push {css : List (List Value)} (ho : w.ownsRow base t R.size v l.length css.flatten) (h1 : css.length = l.length) (h2 : ∀ (i : Nat) a cs, l[i]? = some a → css[i]? = some cs → R.rel w w.heap.size a cs) (hno : t ∉ R.tys) (hN : N0 ≤ base) {a : α} {cs : List Value} (ha : R.rel w w.heap.size a cs) {v' : Value}
    (hown : w'.ownsRow base t R.size v' (l.length + 1) (css.flatten ++ cs)) (hg : w.grownBy w' v.ownBlock) : OwnAt R t base w' v' (l ++ [a]) := by
  have hb := fun g => OwnAt.block (g := g) ⟨css, ho, h1, h2⟩
  have hr : ∀ (g : Nat) (t' : TypeId) (xs : Array Value) (fz : Nat × Nat), v.ownBlock = some g → w.heap[g]? = some (.cells xs t' fz) → N0 ≤ g ∧ t' ∉ R.tys := by
    intro g t' xs fz e hh
    obtain ⟨hle, _, ys, hy⟩ := hb g e
    rw [hy] at hh
    injection hh with hh
    injection hh with _ ht
    exact ⟨by omega, ht ▸ hno⟩
  refine ⟨css ++ [cs], by simpa using hown, by simp [h1], fun i a' cs' ha' hc' => ?_⟩
  rcases Nat.lt_or_ge i l.length with hi | hi
  · rw [List.getElem?_append_left hi] at ha'
    rw [List.getElem?_append_left (by omega)] at hc'
    exact R.more (R.grown (h2 i a' cs' ha' hc') hg hr) hg.size
  · rw [List.getElem?_append_right hi] at ha'
    rw [List.getElem?_append_right (by omega)] at hc'
    have h0 : i - l.length = 0 := by
      rcases Nat.eq_zero_or_pos (i - l.length) with h0 | h0
      · exact h0
      · rw [List.getElem?_eq_none (by simp; omega)] at ha'; cases ha'
    rw [show i - css.length = i - l.length by omega] at hc'
    rw [h0] at ha' hc'
    simp only [List.getElem?_cons_zero, Option.some.injEq] at ha' hc'
    subst ha' hc'
    exact R.more (R.grown ha hg hr) hg.size
end

theorem OwnAt.keep {N0 : Nat} {α : Type} {R : Repr N0 α} {t : TypeId} {base : Nat} {w w' : World} {v : Value} {l : List α} (h : OwnAt R t base w v l) (hz : w.heap.size ≤ w'.heap.size)
    (k : ∀ (g : Nat) (t' : TypeId) (xs : Array Value) (fz : Nat × Nat), (g < N0 ∨ t' ∈ t :: R.tys) → w.heap[g]? = some (.cells xs t' fz) → w'.heap[g]? = some (.cells xs t' fz)) : OwnAt R t base w' v l := by
  obtain ⟨css, ho, h1, h2⟩ := h
  refine ⟨css, ⟨ho.1, ?_⟩, h1, fun i a cs ha hc => R.more (R.keep (h2 i a cs ha hc) fun g t' xs fz _ ht hh => k g t' xs fz (ht.imp_right (List.mem_cons_of_mem _)) hh) hz⟩
  rcases ho.2 with h | ⟨g, cap, cur, hv, hle, hh, hr⟩
  · exact .inl h
  · exact .inr ⟨g, cap, cur, hv, hle, k g t cur (0, 0) (.inr List.mem_cons_self) hh, hr⟩
theorem set_keeps {w : World} {g0 : Nat} {t0 : TypeId} {cs : Array Value} (hb : Blk w g0 t0 cs) (i : Nat) (u : Value) (g : Nat) (t' : TypeId) (xs : Array Value) (fz : Nat × Nat) (hne : t0 ≠ t') (hh : w.heap[g]? = some (.cells xs t' fz)) :
    (w.setCell ⟨g0, i, none⟩ u).heap[g]? = some (.cells xs t' fz) := by
  rw [Below.heap_setCell]
  · exact hh
  · rintro rfl
    unfold Blk at hb
    rw [hb] at hh
    injection hh with hh
    injection hh with _ ht
    exact hne ht
theorem OwnAt.setCell {N0 : Nat} {α : Type} {R : Repr N0 α} {t : TypeId} {base : Nat} {w : World} {v : Value} {l : List α} (h : OwnAt R t base w v l) {g0 : Nat} {t0 : TypeId} {cs : Array Value} (hb : Blk w g0 t0 cs) (hne : t0 ∉ t :: R.tys) (hN : N0 ≤ g0) (i : Nat) (u : Value) : OwnAt R t base (w.setCell ⟨g0, i, none⟩ u) v l :=
  h.keep (by simp [World.setCell]) fun g t' xs fz ht hh => by
    rcases ht with ht | ht
    · rw [Below.heap_setCell _ _ _ _ (by simp; omega)]; exact hh
    · exact set_keeps hb i u g t' xs fz (fun e => hne (e ▸ ht)) hh
theorem OwnAt.one {N0 : Nat} {α : Type} {R : Repr N0 α} {t : TypeId} {base : Nat} {w : World} {g : Nat} {a : α} {cs : List Value} (hb : Blk w g t cs.toArray) (hg : base ≤ g) (ha : R.rel w w.heap.size a cs) : OwnAt R t base w (.slice (some ⟨g, 0, none⟩) 1 1) [a] := by
  have hl := R.len ha
  refine ⟨[cs], ⟨by simp [hl], .inr ⟨g, 1, cs.toArray, rfl, hg, hb, Nat.le_refl _, by unfold maxLen; omega, by simp [hl], by simp [← hl]⟩⟩, rfl, fun i a' cs' ha' hc' => ?_⟩
  cases i with
  | zero => simp only [List.getElem?_cons_zero, Option.some.injEq] at ha' hc'; subst ha' hc'; exact ha
  | succ i => simp at ha'
theorem OwnAt.empty {N0 : Nat} {α : Type} (R : Repr N0 α) {t : TypeId} {base : Nat} {w : World} {g : Nat} (hb : Blk w g t #[]) (hg : base ≤ g) : OwnAt R t base w (.slice (some ⟨g, 0, none⟩) 0 0) [] :=
  ⟨[], ⟨by simp, .inr ⟨g, 0, #[], rfl, hg, hb, Nat.le_refl _, by unfold maxLen; omega, by simp, by simp⟩⟩, rfl, fun i a' cs' ha' => by simp at ha'⟩
theorem OwnAt.of_own {N0 : Nat} {α : Type} {R : Repr N0 α} {t : TypeId} {base : Nat} {w : World} {v : Value} {l : List α} (f : α → List Value) (hf : ∀ a ∈ l, R.rel w w.heap.size a (f a)) (h : w.ownsRow base t R.size v l.length (l.flatMap f)) : OwnAt R t base w v l := by
  refine ⟨l.map f, by rwa [← List.flatMap_def], by simp, fun i a cs ha hc => ?_⟩
  rw [List.getElem?_map, ha] at hc
  simp only [Option.map_some, Option.some.injEq] at hc
  subst hc
  exact hf a (List.mem_of_getElem? ha)
theorem Blk.grownOwn {w w' : World} {g : Nat} {t : TypeId} {cs : Array Value} (h : Blk w g t cs) {N0 : Nat} {α : Type} {R : Repr N0 α} {t1 : TypeId} {base : Nat} {v : Value} {l : List α} (ho : OwnAt R t1 base w v l) (hg : w.grownBy w' v.ownBlock) (hne : t ≠ t1) : Blk w' g t cs :=
  h.grown hg fun e => by
    obtain ⟨_, _, xs, hx⟩ := ho.block e.symm
    rw [show w.heap[g]? = _ from h] at hx
    injection hx with hx
    injection hx with _ ht
    exact hne ht

/-- append of one element that lies in a new block: the row has it behind -/
theorem wpList_push {P : Program} (w : World) {ops : Array Oper} {rest : List Oper} {o : Oper} {a : Act} {Q : Exit → Act → World → Prop} (hgd : o.guard = none) (s x : Operand) (t : TypeId)
    (ho : o.op = .call { callee := .builtin .append, args := #[s, x], argTypes := #[t, t] }) {N0 : Nat} {α : Type} (R : Repr N0 α)
    (base : Nat) (e : TypeId) (i : TypeInfo) (z : Value) (bytes : Nat) (ht : P.underlying t = some (.slice e)) (hi : P.info? e = some i) (hz : i.zero = some z)
    (hsize : i.size = R.size) (hby : i.bytes = bytes) (hzs : z.cells.size = R.size) (hsz : 0 < R.size) (hno : e ∉ R.tys) (hN : N0 ≤ base)
    (v : Value) (l : List α) (hs : a.eval s = v) (hown : OwnAt R e base w v l)
    (g : Nat) (cs : List Value) (y : α) (hx : a.eval x = .slice (some ⟨g, 0, none⟩) 1 1) (hblk : Blk w g e cs.toArray) (hy : R.rel w w.heap.size y cs)
    (h63 : l.length + 1 ≤ maxLen) (hbytes : (l.length + 1) * bytes ≤ 140737488355328) (hbase : base ≤ w.heap.size)
    (h : ∀ A' c' w', OwnAt R e base w' (.slice A' (l.length + 1) c') (l ++ [y]) → w.grownBy w' v.ownBlock → wpList P ops Q rest (a.put o.dst (.slice A' (l.length + 1) c')) w') : wpList P ops Q (o :: rest) a w := by
  obtain ⟨css, hw, h1, h2⟩ := hown
  have hr : Reads w w.heap.size R.size (some ⟨g, 0, none⟩) 1 cs := ⟨by rw [R.len hy]; omega, fun _ => ⟨_, _, rfl, hblk.lt, fun j u hu => by rw [Nat.zero_add, hblk.cell]; simpa using hu⟩⟩
  exact wpList_append_any w hgd s x t ho base e i z R.size bytes ht hi hz hsize hby hzs hsz v l.length css.flatten hs hw w.heap.size _ 1 1 cs hx hr (R.one hy) h63 hbytes hbase
    fun v' w' h3 h4 _ => by
      have h6 := OwnAt.push hw h1 h2 hno hN hy h3 h4
      obtain ⟨A', c', e', _⟩ := h6.form
      rw [List.length_append, List.length_singleton] at e'
      subst e'
      exact h A' c' w' h6 h4
end Go.Proofs.Ytoklllbaihccnaa
