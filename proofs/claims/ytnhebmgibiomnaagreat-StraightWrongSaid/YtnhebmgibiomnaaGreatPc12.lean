/- Parts of the proof, joined: MaX MaY SrN. -/
import Derived.Deep.LoopGhost
import Derived.Laws.EntriesVeiled
import Derived.Maps.Keyed
import Derived.StillTailTactics
import Derived.Test.YtnhebmgibiomnaaGreatPc11
set_option linter.unusedVariables false
set_option linter.unusedSimpArgs false
namespace Go.Proofs.YtnhebmgibiomnaaGreat
open Go.RowKit Mc Go.ChangeMaps
theorem findNow_none : ∀ (es : List MapEntry) (x : Int) (i : Nat), (∀ e ∈ es, ∃ b, e.key = .int .i64 b ∧ x ≠ b) → Instr.findNow (.int .i64) (.int .i64 x) es i = some none
  | [], _, _, _ => rfl
  | e :: es, x, i, h => by
    obtain ⟨b, hb, hne⟩ := h e List.mem_cons_self
    unfold Instr.findNow
    rw [hb]
    have : Instr.sameNow (.int .i64) (.int .i64 x) (.int .i64 b) = some false := by simp [Instr.sameNow, hne]
    rw [this]
    exact findNow_none es x (i + 1) fun e' he' => h e' (List.mem_cons_of_mem _ he')
theorem findNow_some : ∀ (es : List MapEntry) (x : Int) (i j : Nat) (e : MapEntry), es[j]? = some e → e.key = .int .i64 x → (∀ j' e', j' < j → es[j']? = some e' → ∃ b, e'.key = .int .i64 b ∧ x ≠ b) → Instr.findNow (.int .i64) (.int .i64 x) es i = some (some (i + j, e.val))
  | [], _, _, _, _, h, _, _ => by simp at h
  | e0 :: es, x, i, 0, e, h, hk, _ => by
    simp only [List.getElem?_cons_zero, Option.some.injEq] at h
    subst h
    unfold Instr.findNow
    rw [hk]
    have : Instr.sameNow (.int .i64) (.int .i64 x) (.int .i64 x) = some true := by simp [Instr.sameNow]
    rw [this]
    rfl
  | e0 :: es, x, i, j + 1, e, h, hk, ho => by
    obtain ⟨b, hb, hne⟩ := ho 0 e0 (by omega) rfl
    simp only [List.getElem?_cons_succ] at h
    unfold Instr.findNow
    rw [hb]
    have : Instr.sameNow (.int .i64) (.int .i64 x) (.int .i64 b) = some false := by simp [Instr.sameNow, hne]
    rw [this]
    have := findNow_some es x (i + 1) j e h hk fun j' e' hj' he' => ho (j' + 1) e' (by omega) (by simpa using he')
    rw [show i + (j + 1) = i + 1 + j by omega]
    exact this
theorem checkKey_int {P : Program} {k : TypeId} (hk : P.underlying k = some (.int .i64)) (w : World) (em : Bool) (x : Int) : (Instr.checkKey em 10000 k (.int .i64 x)).run P w = .ok () w := by
  unfold Instr.checkKey
  simp [run_underlying hk]
theorem run_insert_new {P : Program} {w : World} {t k e : TypeId} (ht : P.underlying t = some (.map k e)) (hk : P.underlying k = some (.int .i64)) {r : Nat} {es : Array MapEntry} {clock : Nat} (hb : w.heap[r]? = some (.map es clock)) {x : Int} {v : Value}
    (hno : ∀ e ∈ es.toList, ∃ b, e.key = .int .i64 b ∧ x ≠ b) : (Instr.mapUpdate t (.map (some r)) (.int .i64 x) v).run P w = .ok () (setBlock w r (.map (es.push ⟨.int .i64 x, v, clock⟩) (clock + 1))) := by
  have h1 : (Instr.findKey k (.int .i64 x) es.toList).run P w = .ok none w := by
    unfold Instr.findKey
    simp [run_underlying hk, findNow_none _ _ _ hno]
  simp [Instr.mapUpdate, run_underlying ht, MapKept.run_getObj_map hb, checkKey_int hk, h1, MapKept.run_setObj_map _ hb, Result.andThen, setBlock]
theorem run_lookup_at {P : Program} {w : World} {t k e : TypeId} (ht : P.underlying t = some (.map k e)) (hk : P.underlying k = some (.int .i64)) {r : Nat} {es : Array MapEntry} {clock : Nat} (hb : w.heap[r]? = some (.map es clock)) {x : Int} {j : Nat} {en : MapEntry}
    (hj : es.toList[j]? = some en) (hkey : en.key = .int .i64 x) (ho : ∀ j' e', j' < j → es.toList[j']? = some e' → ∃ b, e'.key = .int .i64 b ∧ x ≠ b) : (Instr.lookup t (.map (some r)) (.int .i64 x) false).run P w = .ok en.val w := by
  have h1 : (Instr.findKey k (.int .i64 x) es.toList).run P w = .ok (some (0 + j, en.val)) w := by
    unfold Instr.findKey
    simp [run_underlying hk, findNow_some _ _ 0 _ _ hj hkey ho]
  simp [Instr.lookup, run_underlying ht, MapKept.run_getObj_map hb, checkKey_int hk, h1, Result.andThen]
theorem two_make (f : Fn) (w : World) : Calls Tryz.prog 172 #[.func f #[] #[]] w fun e w' => e = .returned (.func (.func 250) #[] #[.pointer (some ⟨w.heap.size, 0, none⟩)]) ∧ w.alloc (.cells #[.func f #[] #[]] 74) = w' := by
  go_enter Tryz.func172, Tryz.ntmps172
  go_wp2
  go_ret
  exact ⟨rfl, rfl⟩
theorem one_make (f : Fn) (w : World) : Calls Tryz.prog 179 #[.func f #[] #[]] w fun e w' => e = .returned (.func (.func 251) #[] #[.pointer (some ⟨w.heap.size, 0, none⟩)]) ∧ w.alloc (.cells #[.func f #[] #[]] 117) = w' := by
  go_enter Tryz.func179, Tryz.ntmps179
  go_wp2
  go_ret
  exact ⟨rfl, rfl⟩
def DI (w0 : World) (n : Nat) (W : World) : Prop :=
  ∃ bs, W.heap[w0.heap.size]? = some (.map (deedEs bs n).toArray n) ∧ (∀ i, 1 ≤ i → i ≤ n → DeedBox W (fun k => w0.heap.size < k ∧ k < W.heap.size) bs i) ∧ Below w0.heap.size w0 W
theorem deedEs_succ (bs : Nat → Nat) (n : Nat) : deedEs bs (n + 1) = deedEs bs n ++ [⟨.int .i64 ((n + 1 : Nat) : Int), deedV bs (n + 1), n⟩] := by
  unfold deedEs
  rw [List.range_succ, List.map_append]
  rfl
theorem deedEs_congr {bs bs' : Nat → Nat} {n : Nat} (h : ∀ i, i ≤ n → bs i = bs' i) : deedEs bs n = deedEs bs' n := by
  unfold deedEs
  refine List.map_congr_left fun i hi => ?_
  have := List.mem_range.1 hi
  unfold deedV
  rw [h (i + 1) (by omega)]
theorem deedEs_keys {bs : Nat → Nat} {n : Nat} {x : Int} (hx : (n : Int) < x) : ∀ e ∈ (deedEs bs n), ∃ b, e.key = .int .i64 b ∧ x ≠ b := by
  intro e he
  unfold deedEs at he
  obtain ⟨i, hi, rfl⟩ := List.mem_map.1 he
  have := List.mem_range.1 hi
  exact ⟨_, rfl, by omega⟩
theorem DeedBox.keep {W W' : World} {O O' : Nat → Prop} {bs bs' : Nat → Nat} {i : Nat} (h : DeedBox W O bs i) (hb : bs i = bs' i) (hk : ∀ g t cs, Blk W g t cs → Blk W' g t cs) (hO : ∀ k, O k → O' k) : DeedBox W' O' bs' i := by
  unfold DeedBox at h ⊢
  split at h
  · exact ⟨hO _ (hb ▸ h.1), hk _ _ _ (hb ▸ h.2)⟩
  · trivial
theorem blk_setBlock {W : World} {r : Nat} {es es' : Array MapEntry} {c c' : Nat} (hr : W.heap[r]? = some (.map es c)) {g : Nat} {t : TypeId} {cs : Array Value} (h : Blk W g t cs) : Blk (setBlock W r (.map es' c')) g t cs := by
  unfold Blk at h ⊢
  have hne : r ≠ g := by rintro rfl; rw [hr] at h; cases h
  simp only [setBlock]
  rw [Array.getElem?_setIfInBounds_ne hne]
  exact h
theorem DI.add {w0 W : World} {n : Nat} (h : DI w0 n W) (v : Value) (b : Nat) (hv : v = deedV (fun _ => b) (n + 1)) (hbox : DeedBox W (fun k => w0.heap.size < k ∧ k < W.heap.size) (fun _ => b) (n + 1)) :
    ∃ es, W.heap[w0.heap.size]? = some (.map es n) ∧ (∀ e ∈ es.toList, ∃ b, e.key = .int .i64 b ∧ ((n + 1 : Nat) : Int) ≠ b) ∧ DI w0 (n + 1) (setBlock W w0.heap.size (.map (es.push ⟨.int .i64 ((n + 1 : Nat) : Int), v, n⟩) (n + 1))) := by
  obtain ⟨bs, h1, h2, h3⟩ := h
  have hlt : w0.heap.size < W.heap.size := (Array.getElem?_eq_some_iff.1 h1).1
  refine ⟨_, h1, deedEs_keys (by omega), fun i => if i = n + 1 then b else bs i, ?_, ?_, ?_⟩
  · simp only [setBlock]
    rw [Array.getElem?_setIfInBounds_self_of_lt hlt, deedEs_succ, deedEs_congr (bs := fun i => if i = n + 1 then b else bs i) (bs' := bs) (fun i hi => by rw [if_neg (by omega)])]
    subst hv
    unfold deedV
    simp
  · intro i hi1 hi2
    have hz : ∀ k, (w0.heap.size < k ∧ k < W.heap.size) → (w0.heap.size < k ∧ k < (setBlock W w0.heap.size (.map ((deedEs bs n).toArray.push ⟨.int .i64 ((n + 1 : Nat) : Int), v, n⟩) (n + 1))).heap.size) := fun k hk => by simpa [setBlock] using hk
    by_cases hn : i = n + 1
    · subst hn
      exact hbox.keep (by simp) (fun g t cs hb => blk_setBlock h1 hb) hz
    · exact (h2 i hi1 (by omega)).keep (by rw [if_neg hn]) (fun g t cs hb => blk_setBlock h1 hb) hz
  · exact ⟨h3.os, h3.tape, h3.output, by simpa [setBlock] using h3.size, fun k hk => by
      simp only [setBlock]
      rw [Array.getElem?_setIfInBounds_ne (by omega)]
      exact h3.block k hk⟩
theorem DI.alloc {w0 W : World} {n : Nat} (h : DI w0 n W) (o : Obj) : DI w0 n (W.alloc o) := by
  obtain ⟨bs, h1, h2, h3⟩ := h
  have hlt : w0.heap.size < W.heap.size := (Array.getElem?_eq_some_iff.1 h1).1
  exact ⟨bs, (Below.heap_alloc W o _ hlt).trans h1, fun i a b => (h2 i a b).keep rfl (fun g t cs hb => hb.alloc o) (fun k hk => ⟨hk.1, by have := hk.2; simp; omega⟩), h3.alloc (by omega) o⟩
theorem DI.lt {w0 W : World} {n : Nat} (h : DI w0 n W) : w0.heap.size < W.heap.size := by
  obtain ⟨bs, h1, _⟩ := h
  exact (Array.getElem?_eq_some_iff.1 h1).1
theorem wpList_deed {ops : Array Oper} {rest : List Oper} {o : Oper} {a : Act} {Q : Exit → Act → World → Prop} (w0 W : World) (n : Nat) (hgd : o.guard = none) (m k x : Operand) (ho : o.op = .insert 207 m k x) (hdst : o.dst = none)
    (hm : a.eval m = .map (some w0.heap.size)) (hkv : a.eval k = .int .i64 ((n + 1 : Nat) : Int)) (v : Value) (hx : a.eval x = v) (b : Nat) (hd : DI w0 n W) (hv : v = deedV (fun _ => b) (n + 1)) (hbox : DeedBox W (fun k => w0.heap.size < k ∧ k < W.heap.size) (fun _ => b) (n + 1))
    (h : ∀ W', DI w0 (n + 1) W' → wpList Tryz.prog ops Q rest a W') : wpList Tryz.prog ops Q (o :: rest) a W := by
  refine wpList_plain hgd fun K' hK' => ?_
  obtain ⟨es, h1, h2, h3⟩ := hd.add v b hv hbox
  have h4 := h _ h3
  generalize ((n + 1 : Nat) : Int) = X at *
  unfold Oper.wp
  simp only [execOp, ho, hm, hkv, hx]
  simp [run_insert_new (P := Tryz.prog) (w := W) Tryz.underlying207 Tryz.underlying3 h1 (v := v) h2, Result.andThen]
  unfold Oper.upon
  exact hK' _ _ (by rw [hdst]; exact h4)
theorem run_makeMap {P : Program} (w : World) (t : TypeId) : Sem.run P (Instr.makeMap t none) w = .ok (.map (some w.heap.size)) (w.alloc (.map #[] 0)) := by
  unfold Instr.makeMap
  simp [newObj, Sem.run]
theorem DI.start (w : World) : DI w 0 (w.alloc (.map #[] 0)) :=
  ⟨fun _ => 0, heap_alloc_new w _, fun i h1 h2 => by omega, (Below.refl _ _).alloc (Nat.le_refl _) _⟩
theorem DI.box {w0 W : World} {n : Nat} (h : DI w0 n W) (f : Fn) (t : TypeId) : DI w0 n (W.alloc (.cells #[.func f #[] #[]] t)) ∧ (w0.heap.size < W.heap.size ∧ W.heap.size < (W.alloc (.cells #[.func f #[] #[]] t)).heap.size) ∧ Blk (W.alloc (.cells #[.func f #[] #[]] t)) W.heap.size t #[.func f #[] #[]] :=
  ⟨h.alloc _, ⟨h.lt, by simp⟩, Blk.new _ _ _⟩
def DB (w0 : World) (n b : Nat) (t : TypeId) (f : Fn) (W : World) : Prop := DI w0 n W ∧ (w0.heap.size < b ∧ b < W.heap.size) ∧ Blk W b t #[.func f #[] #[]]
theorem two_mk {w0 W : World} {n : Nat} (h : DI w0 n W) (f : Fn) : Calls Tryz.prog 172 #[.func f #[] #[]] W fun e w' => e = .returned (.func (.func 250) #[] #[.pointer (some ⟨W.heap.size, 0, none⟩)]) ∧ DB w0 n W.heap.size 74 f w' :=
  (two_make f W).mono fun _ _ hh => ⟨hh.1, by rw [← hh.2]; exact h.box f _⟩
theorem one_mk {w0 W : World} {n : Nat} (h : DI w0 n W) (f : Fn) : Calls Tryz.prog 179 #[.func f #[] #[]] W fun e w' => e = .returned (.func (.func 251) #[] #[.pointer (some ⟨W.heap.size, 0, none⟩)]) ∧ DB w0 n W.heap.size 117 f w' :=
  (one_make f W).mono fun _ _ hh => ⟨hh.1, by rw [← hh.2]; exact h.box f _⟩
attribute [local go_sem] run_makeMap
set_option maxRecDepth 100000 in
set_option maxHeartbeats 4000000 in
theorem deeds_any (w : World) : Calls Tryz.prog 99 #[] w fun e w' => e = .returned (.map (some w.heap.size)) ∧ DI w 39 w' := by
  go_enter Tryz.func99, Tryz.ntmps99
  have HD := Lib.hid (DI.start w)
  go_wp2_with (first
    | (refine wpList_deed _ _ _ rfl _ _ _ rfl rfl rfl rfl _ rfl 0 HD.out rfl trivial ?_; intro W hW; clear HD; have HD := Lib.hid hW; clear hW)
    | (refine wpList_deed _ _ _ rfl _ _ _ rfl rfl rfl rfl _ rfl _ HD.out.1 rfl HD.out.2 ?_; intro W hW; clear HD; have HD := Lib.hid hW; clear hW)
    | (go_at_call 172; refine (two_mk HD.out _).mono ?_; rintro e w9 ⟨rfl, hd⟩; clear HD; have HD := Lib.hid hd; clear hd)
    | (go_at_call 179; refine (one_mk HD.out _).mono ?_; rintro e w9 ⟨rfl, hd⟩; clear HD; have HD := Lib.hid hd; clear hd))
  go_ret
  exact ⟨rfl, HD.out⟩
end Go.Proofs.YtnhebmgibiomnaaGreat
namespace Go.Proofs.YtnhebmgibiomnaaGreat
open Go.RowKit Mc
theorem enters {f : Nat} {fn : Func} {c : Code} (hf : Tryz.prog.funcs[f]? = some fn) (hname : (fn.name == "runtime.NumGoroutine") = false) (hb : fn.body = some c) : ∀ args w, Sem.run Tryz.prog (callFunc f args) w = .ok (.enter f args) w :=
  fun args w => Go.MuLone.run_callFunc_enter hf hname hb args w
section
variable {w : World} {mb : Nat} {O : Nat → Prop} {L : Lay} {s : St} {a : Int} {bs : Nat → Nat}
end
end Go.Proofs.YtnhebmgibiomnaaGreat
namespace Go.Proofs.YtnhebmgibiomnaaGreat
open Go.RowKit Mc Go.ChangeMaps
def doKey : Nat → Nat
  | 0 => 1
  | 1 => 39
  | 2 => 40
  | 3 => 5
  | 4 => 6
  | 5 => 7
  | 6 => 8
  | 7 => 9
  | 8 => 10
  | 9 => 11
  | 10 => 12
  | 11 => 13
  | 12 => 14
  | 13 => 15
  | 14 => 16
  | 15 => 17
  | 16 => 18
  | 17 => 19
  | 18 => 20
  | 19 => 21
  | 20 => 25
  | 21 => 26
  | 22 => 27
  | 23 => 28
  | 24 => 22
  | 25 => 23
  | 26 => 24
  | 27 => 29
  | 28 => 30
  | 29 => 31
  | 30 => 32
  | 31 => 33
  | 32 => 34
  | 33 => 35
  | 34 => 36
  | _ => 41
def doFn : Nat → Fn × Option (TypeId × Fn)
  | 0 => (.func 102, none)
  | 1 => (.func 103, none)
  | 2 => (.func 224, some (117, .func 105))
  | 3 => (.func 225, some (74, .func 107))
  | 4 => (.func 225, some (74, .func 108))
  | 5 => (.func 225, some (74, .func 109))
  | 6 => (.func 225, some (74, .func 110))
  | 7 => (.func 224, some (117, .func 112))
  | 8 => (.func 224, some (117, .func 113))
  | 9 => (.func 225, some (74, .func 114))
  | 10 => (.func 225, some (74, .func 115))
  | 11 => (.func 224, some (117, .func 116))
  | 12 => (.func 224, some (117, .func 118))
  | 13 => (.func 119, none)
  | 14 => (.func 225, some (74, .func 120))
  | 15 => (.func 225, some (74, .func 122))
  | 16 => (.func 225, some (74, .func 123))
  | 17 => (.func 224, some (117, .func 124))
  | 18 => (.func 225, some (74, .func 125))
  | 19 => (.func 225, some (74, .func 126))
  | 20 => (.func 127, none)
  | 21 => (.func 129, none)
  | 22 => (.func 131, none)
  | 23 => (.func 132, none)
  | 24 => (.func 133, none)
  | 25 => (.func 135, none)
  | 26 => (.func 136, none)
  | 27 => (.func 137, none)
  | 28 => (.func 139, none)
  | 29 => (.func 140, none)
  | 30 => (.func 142, none)
  | 31 => (.func 144, none)
  | 32 => (.func 146, none)
  | 33 => (.func 148, none)
  | 34 => (.func 149, none)
  | _ => (.func 151, none)
def doV (bs : Nat → Nat) (i : Nat) : Value := .func (doFn i).1 #[] (match (doFn i).2 with | some _ => #[.pointer (some ⟨bs i, 0, none⟩)] | none => #[])
def doEs (bs : Nat → Nat) (n : Nat) : List MapEntry := (List.range n).map fun i => ⟨.int .i64 (doKey i : Int), doV bs i, i⟩
def DoBox (w : World) (O : Nat → Prop) (bs : Nat → Nat) (i : Nat) : Prop := match (doFn i).2 with | some (t, f) => O (bs i) ∧ Blk w (bs i) t #[.func f #[] #[]] | none => True
theorem doKey_ne : ∀ i, i < 36 → ∀ j, j < i → doKey i ≠ doKey j := by decide
theorem doKey_in : ∀ k : Nat, k < 43 → (Sr.uses (k : Int)).2 = true → k ≠ 42 → ∃ i, i < 36 ∧ doKey i = k := by decide
def DoI (w0 : World) (n : Nat) (W : World) : Prop :=
  ∃ bs, W.heap[w0.heap.size]? = some (.map (doEs bs n).toArray n) ∧ (∀ i, i < n → DoBox W (fun k => w0.heap.size < k ∧ k < W.heap.size) bs i) ∧ Below w0.heap.size w0 W
theorem doEs_succ (bs : Nat → Nat) (n : Nat) : doEs bs (n + 1) = doEs bs n ++ [⟨.int .i64 (doKey n : Int), doV bs n, n⟩] := by
  unfold doEs
  rw [List.range_succ, List.map_append]
  rfl
theorem doEs_congr {bs bs' : Nat → Nat} {n : Nat} (h : ∀ i, i < n → bs i = bs' i) : doEs bs n = doEs bs' n := by
  unfold doEs
  refine List.map_congr_left fun i hi => ?_
  have := List.mem_range.1 hi
  unfold doV
  rw [h i this]
theorem doEs_keys {bs : Nat → Nat} {n : Nat} (hn : n < 36) : ∀ e ∈ (doEs bs n), ∃ b, e.key = .int .i64 b ∧ (doKey n : Int) ≠ b := by
  intro e he
  unfold doEs at he
  obtain ⟨i, hi, rfl⟩ := List.mem_map.1 he
  have := List.mem_range.1 hi
  exact ⟨_, rfl, by have := doKey_ne n hn i this; omega⟩
theorem DoBox.keep {W W' : World} {O O' : Nat → Prop} {bs bs' : Nat → Nat} {i : Nat} (h : DoBox W O bs i) (hb : bs i = bs' i) (hk : ∀ g t cs, Blk W g t cs → O g → Blk W' g t cs) (hO : ∀ k, O k → O' k) : DoBox W' O' bs' i := by
  unfold DoBox at h ⊢
  split at h
  · exact ⟨hO _ (hb ▸ h.1), hk _ _ _ (hb ▸ h.2) (hb ▸ h.1)⟩
  · trivial
theorem DoI.add {w0 W : World} {n : Nat} (h : DoI w0 n W) (hn : n < 36) (v : Value) (b : Nat) (hv : v = doV (fun _ => b) n) (hbox : DoBox W (fun k => w0.heap.size < k ∧ k < W.heap.size) (fun _ => b) n) :
    ∃ es, W.heap[w0.heap.size]? = some (.map es n) ∧ (∀ e ∈ es.toList, ∃ b, e.key = .int .i64 b ∧ (doKey n : Int) ≠ b) ∧ DoI w0 (n + 1) (setBlock W w0.heap.size (.map (es.push ⟨.int .i64 (doKey n : Int), v, n⟩) (n + 1))) := by
  obtain ⟨bs, h1, h2, h3⟩ := h
  have hlt : w0.heap.size < W.heap.size := (Array.getElem?_eq_some_iff.1 h1).1
  refine ⟨_, h1, doEs_keys hn, fun i => if i = n then b else bs i, ?_, ?_, ?_⟩
  · simp only [setBlock]
    rw [Array.getElem?_setIfInBounds_self_of_lt hlt, doEs_succ, doEs_congr (bs := fun i => if i = n then b else bs i) (bs' := bs) (fun i hi => by rw [if_neg (by omega)])]
    subst hv
    unfold doV
    simp
  · intro i hi
    have hz : ∀ k, (w0.heap.size < k ∧ k < W.heap.size) → (w0.heap.size < k ∧ k < (setBlock W w0.heap.size (.map ((doEs bs n).toArray.push ⟨.int .i64 (doKey n : Int), v, n⟩) (n + 1))).heap.size) := fun k hk => by simpa [setBlock] using hk
    by_cases hne : i = n
    · subst hne
      exact hbox.keep (by simp) (fun g t cs hb _ => blk_setBlock h1 hb) hz
    · exact (h2 i (by omega)).keep (by rw [if_neg hne]) (fun g t cs hb _ => blk_setBlock h1 hb) hz
  · exact ⟨h3.os, h3.tape, h3.output, by simpa [setBlock] using h3.size, fun k hk => by
      simp only [setBlock]
      rw [Array.getElem?_setIfInBounds_ne (by omega)]
      exact h3.block k hk⟩
theorem DoI.lt {w0 W : World} {n : Nat} (h : DoI w0 n W) : w0.heap.size < W.heap.size := by
  obtain ⟨bs, h1, _⟩ := h
  exact (Array.getElem?_eq_some_iff.1 h1).1
theorem DoI.alloc {w0 W : World} {n : Nat} (h : DoI w0 n W) (o : Obj) : DoI w0 n (W.alloc o) := by
  have hlt := h.lt
  obtain ⟨bs, h1, h2, h3⟩ := h
  exact ⟨bs, (Below.heap_alloc W o _ hlt).trans h1, fun i a => (h2 i a).keep rfl (fun g t cs hb _ => hb.alloc o) (fun k hk => ⟨hk.1, by have := hk.2; simp; omega⟩), h3.alloc (by omega) o⟩
theorem wpList_do {ops : Array Oper} {rest : List Oper} {o : Oper} {a : Act} {Q : Exit → Act → World → Prop} (w0 W : World) (n : Nat) (hn : n < 36) (hgd : o.guard = none) (m k x : Operand) (ho : o.op = .insert 158 m k x) (hdst : o.dst = none)
    (hm : a.eval m = .map (some w0.heap.size)) (hkv : a.eval k = .int .i64 (doKey n : Int)) (v : Value) (hx : a.eval x = v) (b : Nat) (hd : DoI w0 n W) (hv : v = doV (fun _ => b) n) (hbox : DoBox W (fun k => w0.heap.size < k ∧ k < W.heap.size) (fun _ => b) n)
    (h : ∀ W', DoI w0 (n + 1) W' → wpList Tryz.prog ops Q rest a W') : wpList Tryz.prog ops Q (o :: rest) a W := by
  refine wpList_plain hgd fun K' hK' => ?_
  obtain ⟨es, h1, h2, h3⟩ := hd.add hn v b hv hbox
  have h4 := h _ h3
  generalize (doKey n : Int) = X at *
  unfold Oper.wp
  simp only [execOp, ho, hm, hkv, hx]
  simp [run_insert_new (P := Tryz.prog) (w := W) Tryz.underlying158 Tryz.underlying3 h1 (v := v) h2, Result.andThen]
  unfold Oper.upon
  exact hK' _ _ (by rw [hdst]; exact h4)
theorem DoI.start (w : World) : DoI w 0 (w.alloc (.map #[] 0)) :=
  ⟨fun _ => 0, heap_alloc_new w _, fun i h1 => by omega, (Below.refl _ _).alloc (Nat.le_refl _) _⟩
def DoB (w0 : World) (n b : Nat) (t : TypeId) (f : Fn) (W : World) : Prop := DoI w0 n W ∧ (w0.heap.size < b ∧ b < W.heap.size) ∧ Blk W b t #[.func f #[] #[]]
theorem DoI.box {w0 W : World} {n : Nat} (h : DoI w0 n W) (f : Fn) (t : TypeId) : DoB w0 n W.heap.size t f (W.alloc (.cells #[.func f #[] #[]] t)) :=
  ⟨h.alloc _, ⟨h.lt, by simp⟩, Blk.new _ _ _⟩
theorem stwo_mk {w0 W : World} {n : Nat} (h : DoI w0 n W) (f : Fn) : Calls Tryz.prog 106 #[.func f #[] #[]] W fun e w' => e = .returned (.func (.func 225) #[] #[.pointer (some ⟨W.heap.size, 0, none⟩)]) ∧ DoB w0 n W.heap.size 74 f w' := by
  have HB := Lib.hid (h.box f 74)
  clear h
  go_enter Tryz.func106, Tryz.ntmps106
  go_wp2
  go_ret
  exact ⟨rfl, HB.out⟩
theorem sone_mk {w0 W : World} {n : Nat} (h : DoI w0 n W) (f : Fn) : Calls Tryz.prog 104 #[.func f #[] #[]] W fun e w' => e = .returned (.func (.func 224) #[] #[.pointer (some ⟨W.heap.size, 0, none⟩)]) ∧ DoB w0 n W.heap.size 117 f w' := by
  have HB := Lib.hid (h.box f 117)
  clear h
  go_enter Tryz.func104, Tryz.ntmps104
  go_wp2
  go_ret
  exact ⟨rfl, HB.out⟩
attribute [local go_sem] run_makeMap
set_option maxRecDepth 100000 in
set_option maxHeartbeats 4000000 in
theorem doings_any (w : World) : Calls Tryz.prog 73 #[] w fun e w' => e = .returned (.map (some w.heap.size)) ∧ DoI w 36 w' := by
  go_enter Tryz.func73, Tryz.ntmps73
  have HD := Lib.hid (DoI.start w)
  go_wp2_with (first
    | (refine wpList_do _ _ _ (by decide) rfl _ _ _ rfl rfl rfl rfl _ rfl 0 HD.out rfl trivial ?_; intro W hW; clear HD; have HD := Lib.hid hW; clear hW)
    | (refine wpList_do _ _ _ (by decide) rfl _ _ _ rfl rfl rfl rfl _ rfl _ HD.out.1 rfl HD.out.2 ?_; intro W hW; clear HD; have HD := Lib.hid hW; clear hW)
    | (go_at_call 106; refine (stwo_mk HD.out _).mono ?_; rintro e w9 ⟨rfl, hd⟩; clear HD; have HD := Lib.hid hd; clear hd)
    | (go_at_call 104; refine (sone_mk HD.out _).mono ?_; rintro e w9 ⟨rfl, hd⟩; clear HD; have HD := Lib.hid hd; clear hd))
  go_ret
  exact ⟨rfl, HD.out⟩
set_option maxRecDepth 100000 in
set_option maxHeartbeats 1000000 in
theorem do34 (w : World) (sb : Nat) (L : SLay) (s : Sr.St) (h : SrL w sb L s) (op n d a b : Int) : Calls Tryz.prog 146 #[.pointer (some ⟨sb, 0, none⟩), regV ⟨op, d, a, b, n⟩] w (SPost w sb L { s with m := inter s.m (n % 2) }) := by
  unfold regV
  have HC := Lib.hid (fun o : Obj => sinter_any (w.alloc o) sb L s (h.alloc o) (n % 2) (by omega))
  have HF := Lib.hid (fun o : Obj => (Fr.refl (SrS L sb) w).alloc o)
  clear h
  go_enter Tryz.func146, Tryz.ntmps146
  go_wp2_with fail
  refine (srest_any _ 2 _ (by decide) (by decide)).mono ?_
  rintro e w1 ⟨rfl, rfl⟩
  go_wp2_with fail
  refine (HC.out _).mono ?_
  intro e w9 hp
  have HP := Lib.hid (hp.from_ (HF.out _))
  obtain ⟨rfl, _⟩ := hp
  go_wp2
  go_end0
  exact HP.out
structure Sr.Reg.Can (r : Sr.Reg) (s : Sr.St) : Prop where
  d : (Sr.uses r.op).1 % 2 = 1 → ∃ d : Nat, r.d = d ∧ d < 64
  a : (Sr.uses r.op).1 / 2 % 2 = 1 → ∃ a : Nat, r.a = a ∧ a < 64
  b : (Sr.uses r.op).1 / 4 % 2 = 1 → ∃ b : Nat, r.b = b ∧ b < 64
  n : Sr.leaps r.op = true → ∃ n : Nat, r.n = n ∧ s.pc + n ≤ 1000000
def DoCall (w : World) (sb : Nat) (L : SLay) (s : Sr.St) (i : Nat) (r : Sr.Reg) (bs : Nat → Nat) : Prop :=
  ∃ id, (doFn i).1 = .func id ∧ (∀ args w, Sem.run Tryz.prog (callFunc id args) w = .ok (.enter id args) w) ∧
    Calls Tryz.prog id (match (doFn i).2 with | some _ => #[.pointer (some ⟨sb, 0, none⟩), regV r, .pointer (some ⟨bs i, 0, none⟩)] | none => #[.pointer (some ⟨sb, 0, none⟩), regV r]) w (SPost w sb L (Sr.deed r s))
section
variable {w : World} {sb : Nat} {L : SLay} {s : Sr.St} {r : Sr.Reg} {bs : Nat → Nat} {O : Nat → Prop}
theorem dk1 (h : SrL w sb L s) (hr : r.op = 1) (hc : r.Can s) (_hb : DoBox w O bs 0) : DoCall w sb L s 0 r bs := by
  obtain ⟨op, d, a, b, n⟩ := r
  simp only at hr
  subst hr
  obtain ⟨d', e, hd⟩ := hc.d rfl
  simp only at e
  subst e
  refine ⟨_, rfl, (enters Tryz.func102 (by kernel_rfl) rfl), ?_⟩
  exact do1 w sb L s h _ n a b d' hd
theorem dk39 (h : SrL w sb L s) (hr : r.op = 39) (hc : r.Can s) (_hb : DoBox w O bs 1) : DoCall w sb L s 1 r bs := by
  obtain ⟨op, d, a, b, n⟩ := r
  simp only at hr
  subst hr
  obtain ⟨d', e, hd⟩ := hc.d rfl
  simp only at e
  subst e
  refine ⟨_, rfl, (enters Tryz.func103 (by kernel_rfl) rfl), ?_⟩
  exact do39 w sb L s h _ n a b d' hd
theorem dk40 (h : SrL w sb L s) (hr : r.op = 40) (hc : r.Can s) (hb : DoBox w O bs 2) : DoCall w sb L s 2 r bs := by
  obtain ⟨op, d, a, b, n⟩ := r
  simp only at hr
  subst hr
  obtain ⟨d', e, hd⟩ := hc.d rfl
  simp only at e
  subst e
  obtain ⟨a', e, ha⟩ := hc.a rfl
  simp only at e
  subst e
  refine ⟨_, rfl, (enters Tryz.func224 (by kernel_rfl) rfl), ?_⟩
  exact sone_any w sb L s h _ n d' a' b hd ha (bs 2) _ hb.2 _ (enters Tryz.func105 (by kernel_rfl) rfl) (fun w => s40 _ w)
theorem dk5 (h : SrL w sb L s) (hr : r.op = 5) (hc : r.Can s) (hb : DoBox w O bs 3) : DoCall w sb L s 3 r bs := by
  obtain ⟨op, d, a, b, n⟩ := r
  simp only at hr
  subst hr
  obtain ⟨d', e, hd⟩ := hc.d rfl
  simp only at e
  subst e
  obtain ⟨a', e, ha⟩ := hc.a rfl
  simp only at e
  subst e
  obtain ⟨b', e, hb'⟩ := hc.b rfl
  simp only at e
  subst e
  refine ⟨_, rfl, (enters Tryz.func225 (by kernel_rfl) rfl), ?_⟩
  exact stwo_any w sb L s h _ n d' a' b' hd ha hb' (bs 3) _ hb.2 _ (enters Tryz.func107 (by kernel_rfl) rfl) (fun w => s5 _ _ w (h.rk ha) (h.rk hb'))
theorem dk6 (h : SrL w sb L s) (hr : r.op = 6) (hc : r.Can s) (hb : DoBox w O bs 4) : DoCall w sb L s 4 r bs := by
  obtain ⟨op, d, a, b, n⟩ := r
  simp only at hr
  subst hr
  obtain ⟨d', e, hd⟩ := hc.d rfl
  simp only at e
  subst e
  obtain ⟨a', e, ha⟩ := hc.a rfl
  simp only at e
  subst e
  obtain ⟨b', e, hb'⟩ := hc.b rfl
  simp only at e
  subst e
  refine ⟨_, rfl, (enters Tryz.func225 (by kernel_rfl) rfl), ?_⟩
  exact stwo_any w sb L s h _ n d' a' b' hd ha hb' (bs 4) _ hb.2 _ (enters Tryz.func108 (by kernel_rfl) rfl) (fun w => s6 _ _ w (h.rk ha) (h.rk hb'))
theorem dk7 (h : SrL w sb L s) (hr : r.op = 7) (hc : r.Can s) (hb : DoBox w O bs 5) : DoCall w sb L s 5 r bs := by
  obtain ⟨op, d, a, b, n⟩ := r
  simp only at hr
  subst hr
  obtain ⟨d', e, hd⟩ := hc.d rfl
  simp only at e
  subst e
  obtain ⟨a', e, ha⟩ := hc.a rfl
  simp only at e
  subst e
  obtain ⟨b', e, hb'⟩ := hc.b rfl
  simp only at e
  subst e
  refine ⟨_, rfl, (enters Tryz.func225 (by kernel_rfl) rfl), ?_⟩
  exact stwo_any w sb L s h _ n d' a' b' hd ha hb' (bs 5) _ hb.2 _ (enters Tryz.func109 (by kernel_rfl) rfl) (fun w => s7 _ _ w (h.rk ha) (h.rk hb'))
theorem dk8 (h : SrL w sb L s) (hr : r.op = 8) (hc : r.Can s) (hb : DoBox w O bs 6) : DoCall w sb L s 6 r bs := by
  obtain ⟨op, d, a, b, n⟩ := r
  simp only at hr
  subst hr
  obtain ⟨d', e, hd⟩ := hc.d rfl
  simp only at e
  subst e
  obtain ⟨a', e, ha⟩ := hc.a rfl
  simp only at e
  subst e
  obtain ⟨b', e, hb'⟩ := hc.b rfl
  simp only at e
  subst e
  refine ⟨_, rfl, (enters Tryz.func225 (by kernel_rfl) rfl), ?_⟩
  exact stwo_any w sb L s h _ n d' a' b' hd ha hb' (bs 6) _ hb.2 _ (enters Tryz.func110 (by kernel_rfl) rfl) (fun w => s8 _ _ w (h.rk ha) (h.rk hb'))
theorem dk9 (h : SrL w sb L s) (hr : r.op = 9) (hc : r.Can s) (hb : DoBox w O bs 7) : DoCall w sb L s 7 r bs := by
  obtain ⟨op, d, a, b, n⟩ := r
  simp only at hr
  subst hr
  obtain ⟨d', e, hd⟩ := hc.d rfl
  simp only at e
  subst e
  obtain ⟨a', e, ha⟩ := hc.a rfl
  simp only at e
  subst e
  refine ⟨_, rfl, (enters Tryz.func224 (by kernel_rfl) rfl), ?_⟩
  exact sone_any w sb L s h _ n d' a' b hd ha (bs 7) _ hb.2 _ (enters Tryz.func112 (by kernel_rfl) rfl) (fun w => s9 _ w (h.rk ha))
theorem dk10 (h : SrL w sb L s) (hr : r.op = 10) (hc : r.Can s) (hb : DoBox w O bs 8) : DoCall w sb L s 8 r bs := by
  obtain ⟨op, d, a, b, n⟩ := r
  simp only at hr
  subst hr
  obtain ⟨d', e, hd⟩ := hc.d rfl
  simp only at e
  subst e
  obtain ⟨a', e, ha⟩ := hc.a rfl
  simp only at e
  subst e
  refine ⟨_, rfl, (enters Tryz.func224 (by kernel_rfl) rfl), ?_⟩
  exact sone_any w sb L s h _ n d' a' b hd ha (bs 8) _ hb.2 _ (enters Tryz.func113 (by kernel_rfl) rfl) (fun w => s10 _ w (h.rk ha))
theorem dk11 (h : SrL w sb L s) (hr : r.op = 11) (hc : r.Can s) (hb : DoBox w O bs 9) : DoCall w sb L s 9 r bs := by
  obtain ⟨op, d, a, b, n⟩ := r
  simp only at hr
  subst hr
  obtain ⟨d', e, hd⟩ := hc.d rfl
  simp only at e
  subst e
  obtain ⟨a', e, ha⟩ := hc.a rfl
  simp only at e
  subst e
  obtain ⟨b', e, hb'⟩ := hc.b rfl
  simp only at e
  subst e
  refine ⟨_, rfl, (enters Tryz.func225 (by kernel_rfl) rfl), ?_⟩
  exact stwo_any w sb L s h _ n d' a' b' hd ha hb' (bs 9) _ hb.2 _ (enters Tryz.func114 (by kernel_rfl) rfl) (fun w => s11 _ _ w (h.rk ha) (h.rk hb'))
theorem dk12 (h : SrL w sb L s) (hr : r.op = 12) (hc : r.Can s) (hb : DoBox w O bs 10) : DoCall w sb L s 10 r bs := by
  obtain ⟨op, d, a, b, n⟩ := r
  simp only at hr
  subst hr
  obtain ⟨d', e, hd⟩ := hc.d rfl
  simp only at e
  subst e
  obtain ⟨a', e, ha⟩ := hc.a rfl
  simp only at e
  subst e
  obtain ⟨b', e, hb'⟩ := hc.b rfl
  simp only at e
  subst e
  refine ⟨_, rfl, (enters Tryz.func225 (by kernel_rfl) rfl), ?_⟩
  exact stwo_any w sb L s h _ n d' a' b' hd ha hb' (bs 10) _ hb.2 _ (enters Tryz.func115 (by kernel_rfl) rfl) (fun w => s12 _ _ w (h.rk ha) (h.rk hb'))
theorem dk13 (h : SrL w sb L s) (hr : r.op = 13) (hc : r.Can s) (hb : DoBox w O bs 11) : DoCall w sb L s 11 r bs := by
  obtain ⟨op, d, a, b, n⟩ := r
  simp only at hr
  subst hr
  obtain ⟨d', e, hd⟩ := hc.d rfl
  simp only at e
  subst e
  obtain ⟨a', e, ha⟩ := hc.a rfl
  simp only at e
  subst e
  refine ⟨_, rfl, (enters Tryz.func224 (by kernel_rfl) rfl), ?_⟩
  exact sone_any w sb L s h _ n d' a' b hd ha (bs 11) _ hb.2 _ (enters Tryz.func116 (by kernel_rfl) rfl) (fun w => s13 _ w (h.rk ha))
theorem dk14 (h : SrL w sb L s) (hr : r.op = 14) (hc : r.Can s) (hb : DoBox w O bs 12) : DoCall w sb L s 12 r bs := by
  obtain ⟨op, d, a, b, n⟩ := r
  simp only at hr
  subst hr
  obtain ⟨d', e, hd⟩ := hc.d rfl
  simp only at e
  subst e
  obtain ⟨a', e, ha⟩ := hc.a rfl
  simp only at e
  subst e
  refine ⟨_, rfl, (enters Tryz.func224 (by kernel_rfl) rfl), ?_⟩
  exact sone_any w sb L s h _ n d' a' b hd ha (bs 12) _ hb.2 _ (enters Tryz.func118 (by kernel_rfl) rfl) (fun w => s14 _ w (h.rk ha))
theorem dk15 (h : SrL w sb L s) (hr : r.op = 15) (hc : r.Can s) (_hb : DoBox w O bs 13) : DoCall w sb L s 13 r bs := by
  obtain ⟨op, d, a, b, n⟩ := r
  simp only at hr
  subst hr
  obtain ⟨d', e, hd⟩ := hc.d rfl
  simp only at e
  subst e
  obtain ⟨a', e, ha⟩ := hc.a rfl
  simp only at e
  subst e
  refine ⟨_, rfl, (enters Tryz.func119 (by kernel_rfl) rfl), ?_⟩
  exact do15 w sb L s h _ n b d' a' hd ha
theorem dk16 (h : SrL w sb L s) (hr : r.op = 16) (hc : r.Can s) (hb : DoBox w O bs 14) : DoCall w sb L s 14 r bs := by
  obtain ⟨op, d, a, b, n⟩ := r
  simp only at hr
  subst hr
  obtain ⟨d', e, hd⟩ := hc.d rfl
  simp only at e
  subst e
  obtain ⟨a', e, ha⟩ := hc.a rfl
  simp only at e
  subst e
  obtain ⟨b', e, hb'⟩ := hc.b rfl
  simp only at e
  subst e
  refine ⟨_, rfl, (enters Tryz.func225 (by kernel_rfl) rfl), ?_⟩
  exact stwo_any w sb L s h _ n d' a' b' hd ha hb' (bs 14) _ hb.2 _ (enters Tryz.func120 (by kernel_rfl) rfl) (fun w => s16 _ _ w (h.rk ha) (h.rk hb'))
theorem dk17 (h : SrL w sb L s) (hr : r.op = 17) (hc : r.Can s) (hb : DoBox w O bs 15) : DoCall w sb L s 15 r bs := by
  obtain ⟨op, d, a, b, n⟩ := r
  simp only at hr
  subst hr
  obtain ⟨d', e, hd⟩ := hc.d rfl
  simp only at e
  subst e
  obtain ⟨a', e, ha⟩ := hc.a rfl
  simp only at e
  subst e
  obtain ⟨b', e, hb'⟩ := hc.b rfl
  simp only at e
  subst e
  refine ⟨_, rfl, (enters Tryz.func225 (by kernel_rfl) rfl), ?_⟩
  exact stwo_any w sb L s h _ n d' a' b' hd ha hb' (bs 15) _ hb.2 _ (enters Tryz.func122 (by kernel_rfl) rfl) (fun w => s17 _ _ w (h.rk ha) (h.rk hb'))
theorem dk18 (h : SrL w sb L s) (hr : r.op = 18) (hc : r.Can s) (hb : DoBox w O bs 16) : DoCall w sb L s 16 r bs := by
  obtain ⟨op, d, a, b, n⟩ := r
  simp only at hr
  subst hr
  obtain ⟨d', e, hd⟩ := hc.d rfl
  simp only at e
  subst e
  obtain ⟨a', e, ha⟩ := hc.a rfl
  simp only at e
  subst e
  obtain ⟨b', e, hb'⟩ := hc.b rfl
  simp only at e
  subst e
  refine ⟨_, rfl, (enters Tryz.func225 (by kernel_rfl) rfl), ?_⟩
  exact stwo_any w sb L s h _ n d' a' b' hd ha hb' (bs 16) _ hb.2 _ (enters Tryz.func123 (by kernel_rfl) rfl) (fun w => s18 _ _ w (h.rk ha) (h.rk hb'))
theorem dk19 (h : SrL w sb L s) (hr : r.op = 19) (hc : r.Can s) (hb : DoBox w O bs 17) : DoCall w sb L s 17 r bs := by
  obtain ⟨op, d, a, b, n⟩ := r
  simp only at hr
  subst hr
  obtain ⟨d', e, hd⟩ := hc.d rfl
  simp only at e
  subst e
  obtain ⟨a', e, ha⟩ := hc.a rfl
  simp only at e
  subst e
  refine ⟨_, rfl, (enters Tryz.func224 (by kernel_rfl) rfl), ?_⟩
  exact sone_any w sb L s h _ n d' a' b hd ha (bs 17) _ hb.2 _ (enters Tryz.func124 (by kernel_rfl) rfl) (fun w => s19 _ w (h.rk ha))
theorem dk20 (h : SrL w sb L s) (hr : r.op = 20) (hc : r.Can s) (hb : DoBox w O bs 18) : DoCall w sb L s 18 r bs := by
  obtain ⟨op, d, a, b, n⟩ := r
  simp only at hr
  subst hr
  obtain ⟨d', e, hd⟩ := hc.d rfl
  simp only at e
  subst e
  obtain ⟨a', e, ha⟩ := hc.a rfl
  simp only at e
  subst e
  obtain ⟨b', e, hb'⟩ := hc.b rfl
  simp only at e
  subst e
  refine ⟨_, rfl, (enters Tryz.func225 (by kernel_rfl) rfl), ?_⟩
  exact stwo_any w sb L s h _ n d' a' b' hd ha hb' (bs 18) _ hb.2 _ (enters Tryz.func125 (by kernel_rfl) rfl) (fun w => s20 _ _ w (h.rk ha) (h.rk hb'))
theorem dk21 (h : SrL w sb L s) (hr : r.op = 21) (hc : r.Can s) (hb : DoBox w O bs 19) : DoCall w sb L s 19 r bs := by
  obtain ⟨op, d, a, b, n⟩ := r
  simp only at hr
  subst hr
  obtain ⟨d', e, hd⟩ := hc.d rfl
  simp only at e
  subst e
  obtain ⟨a', e, ha⟩ := hc.a rfl
  simp only at e
  subst e
  obtain ⟨b', e, hb'⟩ := hc.b rfl
  simp only at e
  subst e
  refine ⟨_, rfl, (enters Tryz.func225 (by kernel_rfl) rfl), ?_⟩
  exact stwo_any w sb L s h _ n d' a' b' hd ha hb' (bs 19) _ hb.2 _ (enters Tryz.func126 (by kernel_rfl) rfl) (fun w => s21 _ _ w (h.rk ha) (h.rk hb'))
theorem dk25 (h : SrL w sb L s) (hr : r.op = 25) (hc : r.Can s) (_hb : DoBox w O bs 20) : DoCall w sb L s 20 r bs := by
  obtain ⟨op, d, a, b, n⟩ := r
  simp only at hr
  subst hr
  obtain ⟨d', e, hd⟩ := hc.d rfl
  simp only at e
  subst e
  obtain ⟨a', e, ha⟩ := hc.a rfl
  simp only at e
  subst e
  refine ⟨_, rfl, (enters Tryz.func127 (by kernel_rfl) rfl), ?_⟩
  exact do25 w sb L s h _ n b d' a' hd ha
theorem dk26 (h : SrL w sb L s) (hr : r.op = 26) (hc : r.Can s) (_hb : DoBox w O bs 21) : DoCall w sb L s 21 r bs := by
  obtain ⟨op, d, a, b, n⟩ := r
  simp only at hr
  subst hr
  obtain ⟨a', e, ha⟩ := hc.a rfl
  simp only at e
  subst e
  obtain ⟨b', e, hb'⟩ := hc.b rfl
  simp only at e
  subst e
  refine ⟨_, rfl, (enters Tryz.func129 (by kernel_rfl) rfl), ?_⟩
  exact do26 w sb L s h _ n d a' b' ha hb'
theorem dk27 (h : SrL w sb L s) (hr : r.op = 27) (hc : r.Can s) (_hb : DoBox w O bs 22) : DoCall w sb L s 22 r bs := by
  obtain ⟨op, d, a, b, n⟩ := r
  simp only at hr
  subst hr
  obtain ⟨d', e, hd⟩ := hc.d rfl
  simp only at e
  subst e
  obtain ⟨a', e, ha⟩ := hc.a rfl
  simp only at e
  subst e
  refine ⟨_, rfl, (enters Tryz.func131 (by kernel_rfl) rfl), ?_⟩
  exact do27 w sb L s h _ n b d' a' hd ha
theorem dk28 (h : SrL w sb L s) (hr : r.op = 28) (hc : r.Can s) (_hb : DoBox w O bs 23) : DoCall w sb L s 23 r bs := by
  obtain ⟨op, d, a, b, n⟩ := r
  simp only at hr
  subst hr
  obtain ⟨a', e, ha⟩ := hc.a rfl
  simp only at e
  subst e
  obtain ⟨b', e, hb'⟩ := hc.b rfl
  simp only at e
  subst e
  refine ⟨_, rfl, (enters Tryz.func132 (by kernel_rfl) rfl), ?_⟩
  exact do28 w sb L s h _ n d a' b' ha hb'
theorem dk22 (h : SrL w sb L s) (hr : r.op = 22) (hc : r.Can s) (_hb : DoBox w O bs 24) : DoCall w sb L s 24 r bs := by
  obtain ⟨op, d, a, b, n⟩ := r
  simp only at hr
  subst hr
  refine ⟨_, rfl, (enters Tryz.func133 (by kernel_rfl) rfl), ?_⟩
  exact do22 w sb L s h _ n d a b
theorem dk23 (h : SrL w sb L s) (hr : r.op = 23) (hc : r.Can s) (_hb : DoBox w O bs 25) : DoCall w sb L s 25 r bs := by
  obtain ⟨op, d, a, b, n⟩ := r
  simp only at hr
  subst hr
  refine ⟨_, rfl, (enters Tryz.func135 (by kernel_rfl) rfl), ?_⟩
  exact do23 w sb L s h _ n d a b
theorem dk24 (h : SrL w sb L s) (hr : r.op = 24) (hc : r.Can s) (_hb : DoBox w O bs 26) : DoCall w sb L s 26 r bs := by
  obtain ⟨op, d, a, b, n⟩ := r
  simp only at hr
  subst hr
  refine ⟨_, rfl, (enters Tryz.func136 (by kernel_rfl) rfl), ?_⟩
  exact do24 w sb L s h _ n d a b
theorem dk29 (h : SrL w sb L s) (hr : r.op = 29) (hc : r.Can s) (_hb : DoBox w O bs 27) : DoCall w sb L s 27 r bs := by
  obtain ⟨op, d, a, b, n⟩ := r
  simp only at hr
  subst hr
  obtain ⟨d', e, hd⟩ := hc.d rfl
  simp only at e
  subst e
  obtain ⟨a', e, ha⟩ := hc.a rfl
  simp only at e
  subst e
  refine ⟨_, rfl, (enters Tryz.func137 (by kernel_rfl) rfl), ?_⟩
  exact do29 w sb L s h _ n b d' a' hd ha
theorem dk30 (h : SrL w sb L s) (hr : r.op = 30) (hc : r.Can s) (_hb : DoBox w O bs 28) : DoCall w sb L s 28 r bs := by
  obtain ⟨op, d, a, b, n⟩ := r
  simp only at hr
  subst hr
  obtain ⟨d', e, hd⟩ := hc.d rfl
  simp only at e
  subst e
  obtain ⟨a', e, ha⟩ := hc.a rfl
  simp only at e
  subst e
  refine ⟨_, rfl, (enters Tryz.func139 (by kernel_rfl) rfl), ?_⟩
  exact do30 w sb L s h _ n b d' a' hd ha
theorem dk31 (h : SrL w sb L s) (hr : r.op = 31) (hc : r.Can s) (_hb : DoBox w O bs 29) : DoCall w sb L s 29 r bs := by
  obtain ⟨op, d, a, b, n⟩ := r
  simp only at hr
  subst hr
  obtain ⟨a', e, ha⟩ := hc.a rfl
  simp only at e
  subst e
  obtain ⟨b', e, hb'⟩ := hc.b rfl
  simp only at e
  subst e
  refine ⟨_, rfl, (enters Tryz.func140 (by kernel_rfl) rfl), ?_⟩
  exact do31 w sb L s h _ n d a' b' ha hb'
theorem dk32 (h : SrL w sb L s) (hr : r.op = 32) (hc : r.Can s) (_hb : DoBox w O bs 30) : DoCall w sb L s 30 r bs := by
  obtain ⟨op, d, a, b, n⟩ := r
  simp only at hr
  subst hr
  obtain ⟨a', e, ha⟩ := hc.a rfl
  simp only at e
  subst e
  obtain ⟨b', e, hb'⟩ := hc.b rfl
  simp only at e
  subst e
  refine ⟨_, rfl, (enters Tryz.func142 (by kernel_rfl) rfl), ?_⟩
  exact do32 w sb L s h _ n d a' b' ha hb'
theorem dk33 (h : SrL w sb L s) (hr : r.op = 33) (hc : r.Can s) (_hb : DoBox w O bs 31) : DoCall w sb L s 31 r bs := by
  obtain ⟨op, d, a, b, n⟩ := r
  simp only at hr
  subst hr
  obtain ⟨a', e, ha⟩ := hc.a rfl
  simp only at e
  subst e
  obtain ⟨b', e, hb'⟩ := hc.b rfl
  simp only at e
  subst e
  refine ⟨_, rfl, (enters Tryz.func144 (by kernel_rfl) rfl), ?_⟩
  exact do33 w sb L s h _ n d a' b' ha hb'
theorem dk34 (h : SrL w sb L s) (hr : r.op = 34) (hc : r.Can s) (_hb : DoBox w O bs 32) : DoCall w sb L s 32 r bs := by
  obtain ⟨op, d, a, b, n⟩ := r
  simp only at hr
  subst hr
  refine ⟨_, rfl, (enters Tryz.func146 (by kernel_rfl) rfl), ?_⟩
  exact do34 w sb L s h _ n d a b
theorem dk35 (h : SrL w sb L s) (hr : r.op = 35) (hc : r.Can s) (_hb : DoBox w O bs 33) : DoCall w sb L s 33 r bs := by
  obtain ⟨op, d, a, b, n⟩ := r
  simp only at hr
  subst hr
  obtain ⟨n', e, hn⟩ := hc.n rfl
  simp only at e
  subst e
  refine ⟨_, rfl, (enters Tryz.func148 (by kernel_rfl) rfl), ?_⟩
  exact do35 w sb L s h _ d a b n' hn
theorem dk36 (h : SrL w sb L s) (hr : r.op = 36) (hc : r.Can s) (_hb : DoBox w O bs 34) : DoCall w sb L s 34 r bs := by
  obtain ⟨op, d, a, b, n⟩ := r
  simp only at hr
  subst hr
  obtain ⟨a', e, ha⟩ := hc.a rfl
  simp only at e
  subst e
  obtain ⟨n', e, hn⟩ := hc.n rfl
  simp only at e
  subst e
  refine ⟨_, rfl, (enters Tryz.func149 (by kernel_rfl) rfl), ?_⟩
  exact do36 w sb L s h _ d b a' n' ha hn
theorem dk41 (h : SrL w sb L s) (hr : r.op = 41) (hc : r.Can s) (_hb : DoBox w O bs 35) : DoCall w sb L s 35 r bs := by
  obtain ⟨op, d, a, b, n⟩ := r
  simp only at hr
  subst hr
  obtain ⟨a', e, ha⟩ := hc.a rfl
  simp only at e
  subst e
  obtain ⟨n', e, hn⟩ := hc.n rfl
  simp only at e
  subst e
  refine ⟨_, rfl, (enters Tryz.func151 (by kernel_rfl) rfl), ?_⟩
  exact do41 w sb L s h _ d b a' n' ha hn
theorem do_any (h : SrL w sb L s) {i : Nat} (hi : i < 36) (hr : r.op = doKey i) (hc : r.Can s) (hb : DoBox w O bs i) : DoCall w sb L s i r bs := by
  match i, hi, hr, hb with
  | 0, _, hr, hb => exact dk1 h hr hc hb
  | 1, _, hr, hb => exact dk39 h hr hc hb
  | 2, _, hr, hb => exact dk40 h hr hc hb
  | 3, _, hr, hb => exact dk5 h hr hc hb
  | 4, _, hr, hb => exact dk6 h hr hc hb
  | 5, _, hr, hb => exact dk7 h hr hc hb
  | 6, _, hr, hb => exact dk8 h hr hc hb
  | 7, _, hr, hb => exact dk9 h hr hc hb
  | 8, _, hr, hb => exact dk10 h hr hc hb
  | 9, _, hr, hb => exact dk11 h hr hc hb
  | 10, _, hr, hb => exact dk12 h hr hc hb
  | 11, _, hr, hb => exact dk13 h hr hc hb
  | 12, _, hr, hb => exact dk14 h hr hc hb
  | 13, _, hr, hb => exact dk15 h hr hc hb
  | 14, _, hr, hb => exact dk16 h hr hc hb
  | 15, _, hr, hb => exact dk17 h hr hc hb
  | 16, _, hr, hb => exact dk18 h hr hc hb
  | 17, _, hr, hb => exact dk19 h hr hc hb
  | 18, _, hr, hb => exact dk20 h hr hc hb
  | 19, _, hr, hb => exact dk21 h hr hc hb
  | 20, _, hr, hb => exact dk25 h hr hc hb
  | 21, _, hr, hb => exact dk26 h hr hc hb
  | 22, _, hr, hb => exact dk27 h hr hc hb
  | 23, _, hr, hb => exact dk28 h hr hc hb
  | 24, _, hr, hb => exact dk22 h hr hc hb
  | 25, _, hr, hb => exact dk23 h hr hc hb
  | 26, _, hr, hb => exact dk24 h hr hc hb
  | 27, _, hr, hb => exact dk29 h hr hc hb
  | 28, _, hr, hb => exact dk30 h hr hc hb
  | 29, _, hr, hb => exact dk31 h hr hc hb
  | 30, _, hr, hb => exact dk32 h hr hc hb
  | 31, _, hr, hb => exact dk33 h hr hc hb
  | 32, _, hr, hb => exact dk34 h hr hc hb
  | 33, _, hr, hb => exact dk35 h hr hc hb
  | 34, _, hr, hb => exact dk36 h hr hc hb
  | 35, _, hr, hb => exact dk41 h hr hc hb
  | n + 36, h2, _, _ => omega
end
end Go.Proofs.YtnhebmgibiomnaaGreat
