/- What holds of memory, rows and maps of ints in no function in particular. Lemmas alone. -/
import Derived.Test.YtoklllbaihccnaaProg
import Derived.Test.YtoklllbaihccnaaMemo
import Derived.Test.YtoklllbaihccnaaSeqs
import Derived.IntWalk
import Derived.LoopN
import Derived.Deep.QuietTactic
import Derived.BigQuiet
import Derived.Lib.SliceRun
import Derived.Conc.MuLone
import Derived.Maps.Keyed
set_option linter.unusedVariables false
set_option linter.unusedSimpArgs false
namespace Go.Proofs.Ytoklllbaihccnaa
open Go.RowKit
theorem ret_i64 {a b : Int} (h : a = b) : Ending.returned (.int .i64 a) = .returned (.int .i64 b) := by rw [h]
def ints (l : List Int) : List Value := l.map (Value.int .i64)
theorem ints_len (l : List Int) : (ints l).length = l.length := by simp [ints]
def Apart (a b : Value) : Prop := ∀ g, a.ownBlock = some g → b.ownBlock ≠ some g
theorem Apart.symm {a b : Value} (h : Apart a b) : Apart b a := fun g h1 h2 => h g h2 h1
theorem info_m {P : Program} {t : TypeId} {z : Value} {n b : Nat} (h : (P.info? t).map (fun i => (i.zero, i.size, i.bytes)) = some (some z, n, b)) : ∃ i, P.info? t = some i ∧ i.zero = some z ∧ i.size = n ∧ i.bytes = b := by
  cases hi : P.info? t with
  | none => rw [hi] at h; cases h
  | some i =>
    rw [hi] at h
    simp only [Option.map_some, Option.some.injEq, Prod.mk.injEq] at h
    exact ⟨i, rfl, h.1, h.2.1, h.2.2⟩
theorem info_int : (Try.prog.info? 3).map (fun i => (i.zero, i.size, i.bytes)) = some (some (.int .i64 0), 1, 8) := by kernel_rfl
theorem Reads.blk {w : World} {g : Nat} {t : TypeId} {cs : List Value} (h : Blk w g t cs.toArray) (size n : Nat) (hl : cs.length = n * size) : Reads w w.heap.size size (some ⟨g, 0, none⟩) n cs :=
  ⟨hl, fun _ => ⟨g, 0, rfl, h.lt, fun j u hu => by rw [Nat.zero_add, h.cell]; simpa using hu⟩⟩
abbrev Grow (w w' : World) : Prop := Fr (fun _ => False) w w'
theorem Grow.below {w w' : World} {B : Nat} (h : Grow w w') (hB : B ≤ w.heap.size) : Below B w w' := Fr.below h hB fun _ _ x => x
theorem owns_grow {w w' : World} {base size n : Nat} {t : TypeId} {v : Value} {xs : List Value} (h : w.ownsRow base t size v n xs) (hg : Grow w w') : w'.ownsRow base t size v n xs := by
  refine ⟨h.1, ?_⟩
  rcases h.2 with h1 | ⟨g, cap, cur, hv, hb, hh, hr⟩
  · exact .inl h1
  · exact .inr ⟨g, cap, cur, hv, hb, (hg.block g (Array.getElem?_eq_some_iff.1 hh).1 (fun x => x)).trans hh, hr⟩
theorem owns_mono {w : World} {base base' size n : Nat} {t : TypeId} {v : Value} {xs : List Value} (h : w.ownsRow base t size v n xs) (hb : base' ≤ base) : w.ownsRow base' t size v n xs := by
  refine ⟨h.1, ?_⟩
  rcases h.2 with h1 | ⟨g, cap, cur, hv, hle, hr⟩
  · exact .inl h1
  · exact .inr ⟨g, cap, cur, hv, by omega, hr⟩
theorem owns_nil (w : World) (base size : Nat) (t : TypeId) : w.ownsRow base t size (.slice none 0 0) 0 [] := ⟨by simp, .inl ⟨rfl, rfl⟩⟩
theorem owns_empty {w : World} {base size g : Nat} {t : TypeId} (hb : Blk w g t #[]) (hg : base ≤ g) : w.ownsRow base t size (.slice (some ⟨g, 0, none⟩) 0 0) 0 [] :=
  ⟨by simp, .inr ⟨g, 0, #[], rfl, hg, hb, Nat.le_refl _, by unfold maxLen; omega, by simp, by simp⟩⟩
theorem grow_of_grown {w w1 w' : World} {r : Option Nat} (h1 : Grow w w1) (hg : w1.grownBy w' r) (h : ∀ g, r = some g → w.heap.size ≤ g) : Grow w w' :=
  ⟨hg.os.trans h1.os, hg.tape.trans h1.tape, hg.output.trans h1.output, Nat.le_trans h1.size hg.size, fun k hk hs => (hg.block k (Nat.lt_of_lt_of_le hk h1.size) (fun e => by have := h k e.symm; omega)).trans (h1.block k hk hs)⟩
theorem ints_set (l : List Int) (i : Nat) (v : Int) : ints (l.set i v) = (ints l).set i (.int .i64 v) := by simp [ints, List.map_set]
theorem ints_get {l : List Int} {i : Nat} {v : Int} (h : l[i]? = some v) : (ints l)[i]? = some (.int .i64 v) := by simp [ints, h]
theorem getD_of {α : Type} {l : List α} {i : Nat} {x d : α} (h : l[i]? = some x) : l.getD i d = x := by rw [List.getD_eq_getElem?_getD, h]; rfl
theorem Reads.at_ {w : World} {B size : Nat} {A : Option Addr} {n : Nat} {xs : List Value} (h : Reads w B size A n xs) (hn : 0 < n) : ∃ b off, A = some ⟨b, off, none⟩ ∧ b < B ∧ ∀ j u, xs[j]? = some u → w.cell? ⟨b, off + j, none⟩ = some u := h.2 hn
theorem apart_nil {v : Value} : Apart (.slice none 0 0) v := fun g h => by simp [Value.ownBlock] at h
theorem ints_one (l : List Int) : ∀ u ∈ ints l, u.oneCell' = true := by
  intro u hu
  obtain ⟨x, _, rfl⟩ := List.mem_map.1 hu
  rfl
theorem owns_form {w : World} {base size n : Nat} {t : TypeId} {v : Value} {xs : List Value} (h : w.ownsRow base t size v n xs) : ∃ A c, v = .slice A n c ∧ n ≤ c ∧ c ≤ maxLen := by
  rcases h.2 with ⟨rfl, rfl⟩ | ⟨g, cap, cur, rfl, _, _, h1, h2, _⟩
  · exact ⟨none, 0, rfl, Nat.le_refl _, Nat.zero_le _⟩
  · exact ⟨_, cap, rfl, h1, h2⟩
theorem owns_set {W : World} {base size n : Nat} {t : TypeId} {v : Value} {xs : List Value} (h : W.ownsRow base t size v n xs) {b : Nat} {t0 : TypeId} {cs : Array Value} (hb : Blk W b t0 cs) (hne : t0 ≠ t) (i : Nat) (u : Value) : (W.setCell ⟨b, i, none⟩ u).ownsRow base t size v n xs := by
  refine ⟨h.1, ?_⟩
  rcases h.2 with h1 | ⟨g, cap, cur, hv, hle, hh, hr⟩
  · exact .inl h1
  · have hng : g ≠ b := fun e => hb.ne_ (show Blk W g t cur from hh) hne e.symm
    exact .inr ⟨g, cap, cur, hv, hle, (Below.heap_setCell _ _ _ _ hng).trans hh, hr⟩
theorem owns_at {W : World} {base size n : Nat} {t : TypeId} {v : Value} {xs : List Value} (h : W.ownsRow base t size v n xs) (hn : 0 < n) :
    ∃ g c, v = .slice (some ⟨g, 0, none⟩) n c ∧ n ≤ c ∧ base ≤ g ∧ g < W.heap.size ∧ ∀ j u, xs[j]? = some u → W.cell? ⟨g, j, none⟩ = some u := by
  rcases h.2 with ⟨_, h0⟩ | ⟨g, cap, cur, rfl, hg, hh, h1, h2, h3, h4⟩
  · omega
  · have hb : Blk W g t cur := hh
    refine ⟨g, cap, rfl, h1, hg, hb.lt, fun j u hu => ?_⟩
    rw [hb.cell]
    rw [← h4, List.getElem?_take] at hu
    split at hu
    · simpa using hu
    · cases hu
theorem step_own {P : Program} (w : World) {ops : Array Oper} {o : Oper} {a : Act} {K : Act → World → Prop} {Q : Exit → Act → World → Prop} {E : Prop} (hgd : o.guard = none) (s x : Operand) (t : TypeId)
    (ho : o.op = .call { callee := .builtin .append, args := #[s, x], argTypes := #[t, t] }) (base : Nat) (e : TypeId) (i : TypeInfo) (z : Value) (size bytes : Nat) (ht : P.underlying t = some (.slice e)) (hi : P.info? e = some i) (hz : i.zero = some z)
    (hsize : i.size = size) (hby : i.bytes = bytes) (hzs : z.cells.size = size) (hsz : 0 < size)
    (v : Value) (n : Nat) (xs : List Value) (hs : a.eval s = v) (hrow : w.ownsRow base e size v n xs)
    (B : Nat) (A : Option Addr) (m c : Nat) (news : List Value) (hx : a.eval x = .slice A m c) (hr : Reads w B size A m news) (h1 : ∀ u ∈ news, u.oneCell' = true)
    (h63 : n + m ≤ maxLen) (hbytes : (n + m) * bytes ≤ 140737488355328) (hbase : base ≤ w.heap.size)
    (h : ∀ v' w', w'.ownsRow base e size v' (n + m) (xs ++ news) → w.grownBy w' v.ownBlock → (v'.ownBlock = v.ownBlock ∨ v'.ownBlock = some w.heap.size) → K (a.put o.dst v') w') :
    if Region.wanted o (yielded ops a.tmps) = true then Oper.wp P o a w K Q else E := by
  have hw : Region.wanted o (yielded ops a.tmps) = true := by simp [Region.wanted, hgd]
  rw [if_pos hw]
  exact wp_append_any w s x t ho base e i z size bytes ht hi hz hsize hby hzs hsz v n xs hs hrow B A m c news hx hr h1 h63 hbytes hbase h
theorem owns_block {w : World} {base size n g : Nat} {t : TypeId} {v : Value} {xs : List Value} (h : w.ownsRow base t size v n xs) (hg : v.ownBlock = some g) : base ≤ g ∧ g < w.heap.size ∧ ∃ cs, Blk w g t cs := by
  rcases h.2 with ⟨rfl, _⟩ | ⟨g', cap, cur, rfl, hb, hh, _⟩
  · simp [Value.ownBlock] at hg
  · simp only [Value.ownBlock, Option.some.injEq] at hg
    subst hg
    exact ⟨hb, (Array.getElem?_eq_some_iff.1 hh).1, cur, hh⟩
theorem owns_keep {w w' : World} {base size n : Nat} {t : TypeId} {v : Value} {xs : List Value} (h : w.ownsRow base t size v n xs) (k : ∀ g, v.ownBlock = some g → w'.heap[g]? = w.heap[g]?) : w'.ownsRow base t size v n xs := by
  refine ⟨h.1, ?_⟩
  rcases h.2 with h1 | ⟨g, cap, cur, hv, hb, hh, hr⟩
  · exact .inl h1
  · exact .inr ⟨g, cap, cur, hv, hb, (k g (by rw [hv]; rfl)).trans hh, hr⟩
theorem owns_grownBy {w w' : World} {base size n : Nat} {t : TypeId} {v u : Value} {xs : List Value} (h : w.ownsRow base t size v n xs) (hg : w.grownBy w' u.ownBlock) (ha : Apart v u) : w'.ownsRow base t size v n xs :=
  owns_keep h fun g e => hg.block g (owns_block h e).2.1 (fun e2 => ha g e e2.symm)
theorem apart_types {w : World} {b1 b2 s1 s2 n1 n2 : Nat} {t1 t2 : TypeId} {v u : Value} {xs ys : List Value} (h : w.ownsRow b1 t1 s1 v n1 xs) (k : w.ownsRow b2 t2 s2 u n2 ys) (hne : t1 ≠ t2) : Apart v u := fun g h1 h2 => by
  obtain ⟨_, _, cs, hb⟩ := owns_block h h1
  obtain ⟨_, _, cs', hb'⟩ := owns_block k h2
  exact (hb.ne_ hb' hne) rfl
theorem apart_pushed {w : World} {v u v' : Value} {base size n : Nat} {t : TypeId} {xs : List Value} (hu : w.ownsRow base t size u n xs) (ha : Apart v u) (h5 : v'.ownBlock = v.ownBlock ∨ v'.ownBlock = some w.heap.size) : Apart v' u := fun g h1 h2 => by
  rcases h5 with h5 | h5
  · exact ha g (h5 ▸ h1) h2
  · rw [h5] at h1
    injection h1 with h1
    have := (owns_block hu h2).2.1
    omega
theorem ints_at (l : List Int) (k : Nat) (x : Int) (h : l[k]? = some x) : (ints l)[k]? = some (.int .i64 x) := by
  unfold ints
  rw [List.getElem?_map, h]
  rfl

/-! ### a map of ints, whatever its elements -/
section
open Go.ChangeMaps Go.MapKept
open Go.Maps (Keyed)
/-- block b is a map whose keys are ints, and which holds just what f says -/
def IMap (w : World) (b : Nat) (f : Int → Option Value) : Prop :=
  ∃ es clock, w.heap[b]? = some (.map es clock) ∧ (∀ x ∈ es.toList, ∃ k : Int, x.key = .int .i64 k ∧ I64 k) ∧ es.toList.Pairwise (fun x y => x.key ≠ y.key) ∧
    ∀ k v, f k = some v ↔ ∃ x ∈ es.toList, x.key = .int .i64 k ∧ x.val = v
theorem IMap.lt {w : World} {b : Nat} {f : Int → Option Value} (h : IMap w b f) : b < w.heap.size := by
  obtain ⟨es, c, hb, _⟩ := h
  exact (Array.getElem?_eq_some_iff.1 hb).1
theorem IMap.keep {w w' : World} {b : Nat} {f : Int → Option Value} (h : IMap w b f) (k : w'.heap[b]? = w.heap[b]?) : IMap w' b f := by
  obtain ⟨es, c, hb, h1⟩ := h
  exact ⟨es, c, k.trans hb, h1⟩
theorem IMap.new (w : World) : IMap (w.alloc (.map #[] 0)) w.heap.size (fun _ => none) :=
  ⟨#[], 0, heap_alloc_new w _, by simp, by simp, by simp⟩
theorem IMap.alloc {w : World} {b : Nat} {f : Int → Option Value} (h : IMap w b f) (o : Obj) : IMap (w.alloc o) b f := h.keep (Below.heap_alloc w o b h.lt)
theorem IMap.drew {w : World} {b : Nat} {f : Int → Option Value} (h : IMap w b f) : IMap w.drew b f := h
theorem IMap.setCell {w : World} {b : Nat} {f : Int → Option Value} (h : IMap w b f) {p : Addr} (hp : b ≠ p.block) (u : Value) : IMap (w.setCell p u) b f := h.keep (Below.heap_setCell w p u b hp)
theorem IMap.ne_blk {w : World} {b g : Nat} {f : Int → Option Value} {t : TypeId} {cs : Array Value} (h : IMap w b f) (hb : Blk w g t cs) : b ≠ g := by
  rintro rfl
  obtain ⟨es, c, hm, _⟩ := h
  unfold Blk at hb
  rw [hm] at hb
  cases hb
theorem IMap.keys {es : Array MapEntry} (hk : Try.prog.underlying 3 = some (.int .i64)) (h : ∀ x ∈ es.toList, ∃ k : Int, x.key = .int .i64 k ∧ I64 k) : ∀ x ∈ es.toList, ∃ kl, keyOf Try.prog 3 x.key = some kl := fun x hx => by
  obtain ⟨k, e, h1⟩ := h x hx
  exact ⟨.int .i64 k, by rw [e]; exact Maps.keyOf_int_mk hk (WalkArith.wf_i64 h1)⟩
theorem IMap.look {w : World} {b : Nat} {f : Int → Option Value} (h : IMap w b f) {t e : TypeId} (ht : Try.prog.underlying t = some (.map 3 e)) {z : Value} (hz : (zeroValue e).run Try.prog w = .ok z w) (k : Int) (hk : I64 k) :
    (Instr.lookup t (.map (some b)) (.int .i64 k) false).run Try.prog w = .ok ((f k).getD z) w := by
  obtain ⟨es, c, hb, h1, h2, h3⟩ := h
  have K : Keyed Try.prog 3 := Maps.int_keyed Try.underlying3
  have hkey : keyOf Try.prog 3 (.int .i64 k) = some (.int .i64 k) := Maps.keyOf_int_mk Try.underlying3 (WalkArith.wf_i64 hk)
  rcases K.find w hkey es.toList (IMap.keys Try.underlying3 h1) with ⟨a1, a2⟩ | ⟨j, e0, a1, a2, a3⟩
  · have hf : f k = none := by
      cases hv : f k with
      | none => rfl
      | some v => obtain ⟨x, hx, e1, _⟩ := (h3 k v).1 hv; exact absurd e1 (a2 x hx)
    rw [hf]
    simp [Instr.lookup, run_underlying ht, MapKept.run_getObj_map hb, K.check w _ hkey, a1, hz, Result.andThen]
  · have hf : f k = some e0.val := (h3 k _).2 ⟨e0, List.mem_of_getElem? a2, a3, rfl⟩
    rw [hf]
    simp [Instr.lookup, run_underlying ht, MapKept.run_getObj_map hb, K.check w _ hkey, a1, Result.andThen]
theorem IMap.store {w : World} {b : Nat} {f : Int → Option Value} (h : IMap w b f) {t e : TypeId} (ht : Try.prog.underlying t = some (.map 3 e)) (k : Int) (hk : I64 k) (v : Value) :
    ∃ w', (Instr.mapUpdate t (.map (some b)) (.int .i64 k) v).run Try.prog w = .ok () w' ∧ IMap w' b (fun x => if x = k then some v else f x) ∧ w.grownBy w' (some b) ∧ w'.heap.size = w.heap.size := by
  obtain ⟨es, c, hb, h1, h2, h3⟩ := h
  have K : Keyed Try.prog 3 := Maps.int_keyed Try.underlying3
  have hkey : keyOf Try.prog 3 (.int .i64 k) = some (.int .i64 k) := Maps.keyOf_int_mk Try.underlying3 (WalkArith.wf_i64 hk)
  have hlt : b < w.heap.size := (Array.getElem?_eq_some_iff.1 hb).1
  have hg : ∀ o, w.grownBy (setBlock w b o) (some b) := fun o => ⟨rfl, rfl, rfl, by simp [setBlock], fun i hi hne => by
    have : i ≠ b := fun e => hne (by rw [e])
    simp [setBlock, Array.getElem?_setIfInBounds_ne (Ne.symm this)]⟩
  have hn : ∀ o, (setBlock w b o).heap[b]? = some o := fun o => by simp [setBlock, Array.getElem?_setIfInBounds_self_of_lt hlt]
  rcases K.find w hkey es.toList (IMap.keys Try.underlying3 h1) with ⟨a1, a2⟩ | ⟨j, e0, a1, a2, a3⟩
  · refine ⟨setBlock w b (.map (es.push ⟨.int .i64 k, v, c⟩) (c + 1)), ?_, ⟨_, _, hn _, ?_, ?_, ?_⟩, hg _, by simp [setBlock]⟩
    · simp [Instr.mapUpdate, run_underlying ht, MapKept.run_getObj_map hb, K.check w false hkey, a1, MapKept.run_setObj_map _ hb, Result.andThen, setBlock]
    · intro x hx
      simp only [Array.toList_push, List.mem_append, List.mem_singleton] at hx
      rcases hx with hx | rfl
      · exact h1 x hx
      · exact ⟨k, rfl, hk⟩
    · rw [Array.toList_push, List.pairwise_append]
      refine ⟨h2, by simp, fun x hx y hy => ?_⟩
      simp only [List.mem_singleton] at hy
      subst hy
      exact a2 x hx
    · intro k' v'
      simp only [Array.toList_push, List.mem_append, List.mem_singleton]
      by_cases e : k' = k
      · subst e
        simp only [if_true, Option.some.injEq]
        refine ⟨fun e => ⟨_, .inr rfl, rfl, e⟩, ?_⟩
        rintro ⟨x, hx | rfl, e1, e2⟩
        · exact absurd e1 (a2 x hx)
        · exact e2
      · show (if k' = k then some v else f k') = some v' ↔ _
        rw [if_neg e, h3]
        refine ⟨fun ⟨x, hx, e1, e2⟩ => ⟨x, .inl hx, e1, e2⟩, ?_⟩
        rintro ⟨x, hx | rfl, e1, e2⟩
        · exact ⟨x, hx, e1, e2⟩
        · simp only [Value.int.injEq, true_and] at e1; exact absurd e1.symm e
  · have hj : es[j]? = some e0 := by simpa using a2
    have hjl : j < es.toList.length := (List.getElem?_eq_some_iff.1 a2).1
    have hlist : (es.modify j (fun e' => { e' with key := .int .i64 k, val := v })).toList = es.toList.set j { e0 with key := .int .i64 k, val := v } := by
      rw [Array.toList_modify, List.modify_eq_set, a2]; rfl
    have hpw := List.pairwise_iff_getElem.1 h2
    have who : ∀ x, x ∈ es.toList.set j { e0 with key := .int .i64 k, val := v } ↔ x = { e0 with key := .int .i64 k, val := v } ∨ (x ∈ es.toList ∧ x.key ≠ .int .i64 k) := by
      intro x
      constructor
      · intro hx
        obtain ⟨i, hi, ex⟩ := List.getElem_of_mem hx
        rw [List.getElem_set] at ex
        split at ex
        · exact .inl ex.symm
        · rename_i hne
          have hi' : i < es.toList.length := by simpa using hi
          refine .inr ⟨ex ▸ List.getElem_mem hi', ?_⟩
          rw [← ex]
          have e0' : es.toList[j].key = .int .i64 k := by rw [← a3, (by rw [List.getElem?_eq_getElem hjl] at a2; exact Option.some.inj a2 : es.toList[j] = e0)]
          intro e1
          rcases Nat.lt_or_gt_of_ne hne with hl | hl
          · exact hpw j i hjl hi' hl (e0'.trans e1.symm)
          · exact hpw i j hi' hjl hl (e1.trans e0'.symm)
      · rintro (rfl | ⟨hx, hne⟩)
        · exact List.mem_iff_getElem.2 ⟨j, by simpa using hjl, by simp⟩
        · obtain ⟨i, hi, ex⟩ := List.getElem_of_mem hx
          have hij : j ≠ i := by
            rintro rfl
            rw [List.getElem?_eq_getElem hi] at a2
            exact hne (by rw [← ex, Option.some.inj a2, a3])
          exact List.mem_iff_getElem.2 ⟨i, by simpa using hi, by rw [List.getElem_set_ne hij]; exact ex⟩
    refine ⟨setBlock w b (.map (es.modify j (fun e' => { e' with key := .int .i64 k, val := v })) c), ?_, ⟨_, _, hn _, ?_, ?_, ?_⟩, hg _, by simp [setBlock]⟩
    · simp [Instr.mapUpdate, run_underlying ht, MapKept.run_getObj_map hb, K.check w false hkey, a1, hj, a3, K.stays w hkey, MapKept.run_setObj_map _ hb, Result.andThen, setBlock]
    · intro x hx
      rw [hlist] at hx
      rcases (who x).1 hx with rfl | ⟨hx', _⟩
      · exact ⟨k, rfl, hk⟩
      · exact h1 x hx'
    · rw [hlist, List.pairwise_iff_getElem]
      have hkey' : ∀ i (hi : i < (es.toList.set j { e0 with key := .int .i64 k, val := v }).length), (es.toList.set j { e0 with key := .int .i64 k, val := v })[i].key = (es.toList[i]'(by simpa using hi)).key := by
        intro i hi
        rw [List.getElem_set]
        split
        · rename_i e
          subst e
          rw [List.getElem?_eq_getElem hjl] at a2
          rw [Option.some.inj a2, a3]
        · rfl
      intro i i' hi hi' hlt'
      rw [hkey' i hi, hkey' i' hi']
      exact hpw i i' _ _ hlt'
    · intro k' v'
      rw [hlist]
      by_cases e : k' = k
      · subst e
        simp only [if_true, Option.some.injEq]
        refine ⟨fun e => ⟨_, (who _).2 (.inl rfl), rfl, e⟩, ?_⟩
        rintro ⟨x, hx, e1, e2⟩
        rcases (who x).1 hx with rfl | ⟨_, hne⟩
        · exact e2
        · exact absurd e1 hne
      · show (if k' = k then some v else f k') = some v' ↔ _
        rw [if_neg e, h3]
        refine ⟨fun ⟨x, hx, e1, e2⟩ => ⟨x, (who _).2 (.inr ⟨hx, by rw [e1]; simpa using e⟩), e1, e2⟩, ?_⟩
        rintro ⟨x, hx, e1, e2⟩
        rcases (who x).1 hx with rfl | ⟨hx', _⟩
        · simp only [Value.int.injEq, true_and] at e1; exact absurd e1.symm e
        · exact ⟨x, hx', e1, e2⟩
end
end Go.Proofs.Ytoklllbaihccnaa
