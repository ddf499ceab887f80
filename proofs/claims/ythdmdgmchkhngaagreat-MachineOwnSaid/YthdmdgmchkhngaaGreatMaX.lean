/- The machine's map of deeds: one, two and deeds: their contracts. -/
import Derived.Test.YthdmdgmchkhngaaGreatMcB
import Derived.Maps.Keyed
import Derived.Laws.EntriesVeiled
namespace Go.Proofs.YthdmdgmchkhngaaGreat
open Go.RowKit Mc Go.ChangeMaps

theorem findNow_none : ∀ (es : List MapEntry) (x : Int) (i : Nat), (∀ e ∈ es, ∃ b, e.key = .int .i64 b ∧ x ≠ b) → Instr.findNow (.int .i64) (.int .i64 x) es i = some none
  | [], _, _, _ => rfl
  | e :: es, x, i, h => by
    obtain ⟨b, hb, hne⟩ := h e List.mem_cons_self
    unfold Instr.findNow
    rw [hb]
    have : Instr.sameNow (.int .i64) (.int .i64 x) (.int .i64 b) = some false := by simp [Instr.sameNow, hne]
    rw [this]
    exact findNow_none es x (i + 1) fun e' he' => h e' (List.mem_cons_of_mem _ he')
theorem findNow_some : ∀ (es : List MapEntry) (x : Int) (i j : Nat) (e : MapEntry), es[j]? = some e → e.key = .int .i64 x → (∀ j' e', j' < j → es[j']? = some e' → ∃ b, e'.key = .int .i64 b ∧ x ≠ b) → Instr.findNow (.int .i64) (.int .i64 x) es i = some (some (i + j, e.val))
  | [], _, _, _, _, h, _, _ => by simp at h
  | e0 :: es, x, i, 0, e, h, hk, _ => by
    simp only [List.getElem?_cons_zero, Option.some.injEq] at h
    subst h
    unfold Instr.findNow
    rw [hk]
    have : Instr.sameNow (.int .i64) (.int .i64 x) (.int .i64 x) = some true := by simp [Instr.sameNow]
    rw [this]
    rfl
  | e0 :: es, x, i, j + 1, e, h, hk, ho => by
    obtain ⟨b, hb, hne⟩ := ho 0 e0 (by omega) rfl
    simp only [List.getElem?_cons_succ] at h
    unfold Instr.findNow
    rw [hb]
    have : Instr.sameNow (.int .i64) (.int .i64 x) (.int .i64 b) = some false := by simp [Instr.sameNow, hne]
    rw [this]
    have := findNow_some es x (i + 1) j e h hk fun j' e' hj' he' => ho (j' + 1) e' (by omega) (by simpa using he')
    rw [show i + (j + 1) = i + 1 + j by omega]
    exact this
theorem checkKey_int {P : Program} {k : TypeId} (hk : P.underlying k = some (.int .i64)) (w : World) (em : Bool) (x : Int) : (Instr.checkKey em 10000 k (.int .i64 x)).run P w = .ok () w := by
  unfold Instr.checkKey
  simp [run_underlying hk]
/-- a new key is put into a map -/
theorem run_insert_new {P : Program} {w : World} {t k e : TypeId} (ht : P.underlying t = some (.map k e)) (hk : P.underlying k = some (.int .i64)) {r : Nat} {es : Array MapEntry} {clock : Nat} (hb : w.heap[r]? = some (.map es clock)) {x : Int} {v : Value}
    (hno : ∀ e ∈ es.toList, ∃ b, e.key = .int .i64 b ∧ x ≠ b) : (Instr.mapUpdate t (.map (some r)) (.int .i64 x) v).run P w = .ok () (setBlock w r (.map (es.push ⟨.int .i64 x, v, clock⟩) (clock + 1))) := by
  have h1 : (Instr.findKey k (.int .i64 x) es.toList).run P w = .ok none w := by
    unfold Instr.findKey
    simp [run_underlying hk, findNow_none _ _ _ hno]
  simp [Instr.mapUpdate, run_underlying ht, MapKept.run_getObj_map hb, checkKey_int hk, h1, MapKept.run_setObj_map _ hb, Result.andThen, setBlock]
/-- a key that is there is looked up -/
theorem run_lookup_at {P : Program} {w : World} {t k e : TypeId} (ht : P.underlying t = some (.map k e)) (hk : P.underlying k = some (.int .i64)) {r : Nat} {es : Array MapEntry} {clock : Nat} (hb : w.heap[r]? = some (.map es clock)) {x : Int} {j : Nat} {en : MapEntry}
    (hj : es.toList[j]? = some en) (hkey : en.key = .int .i64 x) (ho : ∀ j' e', j' < j → es.toList[j']? = some e' → ∃ b, e'.key = .int .i64 b ∧ x ≠ b) : (Instr.lookup t (.map (some r)) (.int .i64 x) false).run P w = .ok en.val w := by
  have h1 : (Instr.findKey k (.int .i64 x) es.toList).run P w = .ok (some (0 + j, en.val)) w := by
    unfold Instr.findKey
    simp [run_underlying hk, findNow_some _ _ 0 _ _ hj hkey ho]
  simp [Instr.lookup, run_underlying ht, MapKept.run_getObj_map hb, checkKey_int hk, h1, Result.andThen]

theorem two_make (f : Fn) (w : World) : Calls Tryz.prog 55 #[.func f #[] #[]] w fun e w' => e = .returned (.func (.func 122) #[] #[.pointer (some ⟨w.heap.size, 0, none⟩)]) ∧ w.alloc (.cells #[.func f #[] #[]] 35) = w' := by
  go_enter Tryz.func55, Tryz.ntmps55
  go_wp2
  go_ret
  exact ⟨rfl, rfl⟩
theorem one_make (f : Fn) (w : World) : Calls Tryz.prog 62 #[.func f #[] #[]] w fun e w' => e = .returned (.func (.func 123) #[] #[.pointer (some ⟨w.heap.size, 0, none⟩)]) ∧ w.alloc (.cells #[.func f #[] #[]] 82) = w' := by
  go_enter Tryz.func62, Tryz.ntmps62
  go_wp2
  go_ret
  exact ⟨rfl, rfl⟩

/-- the map while it is filled -/
def DI (w0 : World) (n : Nat) (W : World) : Prop :=
  ∃ bs, W.heap[w0.heap.size]? = some (.map (deedEs bs n).toArray n) ∧ (∀ i, 1 ≤ i → i ≤ n → DeedBox W (fun k => w0.heap.size < k ∧ k < W.heap.size) bs i) ∧ Below w0.heap.size w0 W
theorem deedEs_succ (bs : Nat → Nat) (n : Nat) : deedEs bs (n + 1) = deedEs bs n ++ [⟨.int .i64 ((n + 1 : Nat) : Int), deedV bs (n + 1), n⟩] := by
  unfold deedEs
  rw [List.range_succ, List.map_append]
  rfl
theorem deedEs_congr {bs bs' : Nat → Nat} {n : Nat} (h : ∀ i, i ≤ n → bs i = bs' i) : deedEs bs n = deedEs bs' n := by
  unfold deedEs
  refine List.map_congr_left fun i hi => ?_
  have := List.mem_range.1 hi
  unfold deedV
  rw [h (i + 1) (by omega)]
theorem deedEs_keys {bs : Nat → Nat} {n : Nat} {x : Int} (hx : (n : Int) < x) : ∀ e ∈ (deedEs bs n), ∃ b, e.key = .int .i64 b ∧ x ≠ b := by
  intro e he
  unfold deedEs at he
  obtain ⟨i, hi, rfl⟩ := List.mem_map.1 he
  have := List.mem_range.1 hi
  exact ⟨_, rfl, by omega⟩
theorem DeedBox.keep {W W' : World} {O O' : Nat → Prop} {bs bs' : Nat → Nat} {i : Nat} (h : DeedBox W O bs i) (hb : bs i = bs' i) (hk : ∀ g t cs, Blk W g t cs → Blk W' g t cs) (hO : ∀ k, O k → O' k) : DeedBox W' O' bs' i := by
  unfold DeedBox at h ⊢
  split at h
  · exact ⟨hO _ (hb ▸ h.1), hk _ _ _ (hb ▸ h.2)⟩
  · trivial
theorem blk_setBlock {W : World} {r : Nat} {es es' : Array MapEntry} {c c' : Nat} (hr : W.heap[r]? = some (.map es c)) {g : Nat} {t : TypeId} {cs : Array Value} (h : Blk W g t cs) : Blk (setBlock W r (.map es' c')) g t cs := by
  unfold Blk at h ⊢
  have hne : r ≠ g := by rintro rfl; rw [hr] at h; cases h
  simp only [setBlock]
  rw [Array.getElem?_setIfInBounds_ne hne]
  exact h
/-- one more deed -/
theorem DI.add {w0 W : World} {n : Nat} (h : DI w0 n W) (v : Value) (b : Nat) (hv : v = deedV (fun _ => b) (n + 1)) (hbox : DeedBox W (fun k => w0.heap.size < k ∧ k < W.heap.size) (fun _ => b) (n + 1)) :
    ∃ es, W.heap[w0.heap.size]? = some (.map es n) ∧ (∀ e ∈ es.toList, ∃ b, e.key = .int .i64 b ∧ ((n + 1 : Nat) : Int) ≠ b) ∧ DI w0 (n + 1) (setBlock W w0.heap.size (.map (es.push ⟨.int .i64 ((n + 1 : Nat) : Int), v, n⟩) (n + 1))) := by
  obtain ⟨bs, h1, h2, h3⟩ := h
  have hlt : w0.heap.size < W.heap.size := (Array.getElem?_eq_some_iff.1 h1).1
  refine ⟨_, h1, deedEs_keys (by omega), fun i => if i = n + 1 then b else bs i, ?_, ?_, ?_⟩
  · simp only [setBlock]
    rw [Array.getElem?_setIfInBounds_self_of_lt hlt, deedEs_succ, deedEs_congr (bs := fun i => if i = n + 1 then b else bs i) (bs' := bs) (fun i hi => by rw [if_neg (by omega)])]
    subst hv
    unfold deedV
    simp
  · intro i hi1 hi2
    have hz : ∀ k, (w0.heap.size < k ∧ k < W.heap.size) → (w0.heap.size < k ∧ k < (setBlock W w0.heap.size (.map ((deedEs bs n).toArray.push ⟨.int .i64 ((n + 1 : Nat) : Int), v, n⟩) (n + 1))).heap.size) := fun k hk => by simpa [setBlock] using hk
    by_cases hn : i = n + 1
    · subst hn
      exact hbox.keep (by simp) (fun g t cs hb => blk_setBlock h1 hb) hz
    · exact (h2 i hi1 (by omega)).keep (by rw [if_neg hn]) (fun g t cs hb => blk_setBlock h1 hb) hz
  · exact ⟨h3.os, h3.tape, h3.output, by simpa [setBlock] using h3.size, fun k hk => by
      simp only [setBlock]
      rw [Array.getElem?_setIfInBounds_ne (by omega)]
      exact h3.block k hk⟩
theorem DI.alloc {w0 W : World} {n : Nat} (h : DI w0 n W) (o : Obj) : DI w0 n (W.alloc o) := by
  obtain ⟨bs, h1, h2, h3⟩ := h
  have hlt : w0.heap.size < W.heap.size := (Array.getElem?_eq_some_iff.1 h1).1
  exact ⟨bs, (Below.heap_alloc W o _ hlt).trans h1, fun i a b => (h2 i a b).keep rfl (fun g t cs hb => hb.alloc o) (fun k hk => ⟨hk.1, by have := hk.2; simp; omega⟩), h3.alloc (by omega) o⟩
theorem DI.lt {w0 W : World} {n : Nat} (h : DI w0 n W) : w0.heap.size < W.heap.size := by
  obtain ⟨bs, h1, _⟩ := h
  exact (Array.getElem?_eq_some_iff.1 h1).1
/-- a deed's insert -/
theorem wpList_deed {ops : Array Oper} {rest : List Oper} {o : Oper} {a : Act} {Q : Exit → Act → World → Prop} (w0 W : World) (n : Nat) (hgd : o.guard = none) (m k x : Operand) (ho : o.op = .insert 83 m k x) (hdst : o.dst = none)
    (hm : a.eval m = .map (some w0.heap.size)) (hkv : a.eval k = .int .i64 ((n + 1 : Nat) : Int)) (v : Value) (hx : a.eval x = v) (b : Nat) (hd : DI w0 n W) (hv : v = deedV (fun _ => b) (n + 1)) (hbox : DeedBox W (fun k => w0.heap.size < k ∧ k < W.heap.size) (fun _ => b) (n + 1))
    (h : ∀ W', DI w0 (n + 1) W' → wpList Tryz.prog ops Q rest a W') : wpList Tryz.prog ops Q (o :: rest) a W := by
  refine wpList_plain hgd fun K' hK' => ?_
  obtain ⟨es, h1, h2, h3⟩ := hd.add v b hv hbox
  have h4 := h _ h3
  generalize ((n + 1 : Nat) : Int) = X at *
  unfold Oper.wp
  simp only [execOp, ho, hm, hkv, hx]
  simp [run_insert_new (P := Tryz.prog) (w := W) Tryz.underlying83 Tryz.underlying3 h1 (v := v) h2, Result.andThen]
  unfold Oper.upon
  exact hK' _ _ (by rw [hdst]; exact h4)
theorem run_makeMap {P : Program} (w : World) (t : TypeId) : Sem.run P (Instr.makeMap t none) w = .ok (.map (some w.heap.size)) (w.alloc (.map #[] 0)) := by
  unfold Instr.makeMap
  simp [newObj, Sem.run]
theorem DI.start (w : World) : DI w 0 (w.alloc (.map #[] 0)) :=
  ⟨fun _ => 0, heap_alloc_new w _, fun i h1 h2 => by omega, (Below.refl _ _).alloc (Nat.le_refl _) _⟩
theorem DI.box {w0 W : World} {n : Nat} (h : DI w0 n W) (f : Fn) (t : TypeId) : DI w0 n (W.alloc (.cells #[.func f #[] #[]] t)) ∧ (w0.heap.size < W.heap.size ∧ W.heap.size < (W.alloc (.cells #[.func f #[] #[]] t)).heap.size) ∧ Blk (W.alloc (.cells #[.func f #[] #[]] t)) W.heap.size t #[.func f #[] #[]] :=
  ⟨h.alloc _, ⟨h.lt, by simp⟩, Blk.new _ _ _⟩
def DB (w0 : World) (n b : Nat) (t : TypeId) (f : Fn) (W : World) : Prop := DI w0 n W ∧ (w0.heap.size < b ∧ b < W.heap.size) ∧ Blk W b t #[.func f #[] #[]]
theorem two_mk {w0 W : World} {n : Nat} (h : DI w0 n W) (f : Fn) : Calls Tryz.prog 55 #[.func f #[] #[]] W fun e w' => e = .returned (.func (.func 122) #[] #[.pointer (some ⟨W.heap.size, 0, none⟩)]) ∧ DB w0 n W.heap.size 35 f w' :=
  (two_make f W).mono fun _ _ hh => ⟨hh.1, by rw [← hh.2]; exact h.box f _⟩
theorem one_mk {w0 W : World} {n : Nat} (h : DI w0 n W) (f : Fn) : Calls Tryz.prog 62 #[.func f #[] #[]] W fun e w' => e = .returned (.func (.func 123) #[] #[.pointer (some ⟨W.heap.size, 0, none⟩)]) ∧ DB w0 n W.heap.size 82 f w' :=
  (one_make f W).mono fun _ _ hh => ⟨hh.1, by rw [← hh.2]; exact h.box f _⟩
attribute [local go_sem] run_makeMap

set_option maxRecDepth 100000 in
set_option maxHeartbeats 4000000 in
theorem deeds_any (w : World) : Calls Tryz.prog 30 #[] w fun e w' => e = .returned (.map (some w.heap.size)) ∧ DI w 39 w' := by
  go_enter Tryz.func30, Tryz.ntmps30
  have HD := Lib.hid (DI.start w)
  go_wp2_with (first
    | (refine wpList_deed _ _ _ rfl _ _ _ rfl rfl rfl rfl _ rfl 0 HD.out rfl trivial ?_; intro W hW; clear HD; have HD := Lib.hid hW; clear hW)
    | (refine wpList_deed _ _ _ rfl _ _ _ rfl rfl rfl rfl _ rfl _ HD.out.1 rfl HD.out.2 ?_; intro W hW; clear HD; have HD := Lib.hid hW; clear hW)
    | (go_at_call 55; refine (two_mk HD.out _).mono ?_; rintro e w9 ⟨rfl, hd⟩; clear HD; have HD := Lib.hid hd; clear hd)
    | (go_at_call 62; refine (one_mk HD.out _).mono ?_; rintro e w9 ⟨rfl, hd⟩; clear HD; have HD := Lib.hid hd; clear hd))
  go_ret
  exact ⟨rfl, HD.out⟩
end Go.Proofs.YthdmdgmchkhngaaGreat
