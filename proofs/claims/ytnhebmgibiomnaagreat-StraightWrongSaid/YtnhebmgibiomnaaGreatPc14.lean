/- Parts of the proof, joined: MnA. -/
import Derived.Test.YtnhebmgibiomnaaGreatPc13
set_option linter.unusedVariables false
set_option linter.unusedSimpArgs false
namespace Go.Proofs.YtnhebmgibiomnaaGreat
open Go.RowKit Mc
theorem MaC.setCo {L : Lay} {s : St} (h : MaC L s) (u : Value) (l : List (Nat × Nat)) : MaC { L with cs := L.cs.setIfInBounds 6 u, co := u } { s with cont := l } := by
  have hz := h.sz
  have hl := h.stl
  refine ⟨by simp only [Array.size_setIfInBounds]; exact h.sz, h.stl, fun j x hx => ?_, ?_, ?_, ?_, ?_, ?_, ?_, ?_, ?_, ?_, ?_, ?_, ?_, ?_, ?_, ?_, ?_, ?_, ?_⟩
  · have : j < s.store.length := (List.getElem?_eq_some_iff.1 hx).1
    rw [Array.getElem?_setIfInBounds_ne (by omega)]
    exact h.st j x hx
  · rw [Array.getElem?_setIfInBounds_ne (by decide)]; exact h.c0
  · rw [Array.getElem?_setIfInBounds_ne (by decide)]; exact h.c1
  · rw [Array.getElem?_setIfInBounds_ne (by decide)]; exact h.c2
  · rw [Array.getElem?_setIfInBounds_ne (by decide)]; exact h.c3
  · rw [Array.getElem?_setIfInBounds_ne (by decide)]; exact h.c4
  · rw [Array.getElem?_setIfInBounds_ne (by decide)]; exact h.c5
  · rw [Array.getElem?_setIfInBounds_self_of_lt (by omega)]
  · rw [Array.getElem?_setIfInBounds_ne (by decide)]; exact h.c7
  · rw [Array.getElem?_setIfInBounds_ne (by decide)]; exact h.c40
  · rw [Array.getElem?_setIfInBounds_ne (by decide)]; exact h.c41
  · rw [Array.getElem?_setIfInBounds_ne (by decide)]; exact h.c42
  · rw [Array.getElem?_setIfInBounds_ne (by decide)]; exact h.c43
  · rw [Array.getElem?_setIfInBounds_ne (by decide)]; exact h.c44
  · rw [Array.getElem?_setIfInBounds_ne (by decide)]; exact h.c45
  · rw [Array.getElem?_setIfInBounds_ne (by decide)]; exact h.c46
  · rw [Array.getElem?_setIfInBounds_ne (by decide)]; exact h.c47
  · rw [Array.getElem?_setIfInBounds_ne (by decide)]; exact h.c48
  · rw [Array.getElem?_setIfInBounds_ne (by decide)]; exact h.c49
theorem MaC.setZone {L : Lay} {s : St} (h : MaC L s) (u1 u2 u3 u4 : Value) (l1 l2 : List (Int × Int)) (l3 l4 : List Int) : MaC { L with cs := (((L.cs.setIfInBounds 2 u1).setIfInBounds 3 u2).setIfInBounds 4 u3).setIfInBounds 5 u4, og := u1, cu := u2, to := u3, en := u4 } { s with org := l1, cur := l2, touch := l3, ends := l4 } := by
  have hz := h.sz
  have hl := h.stl
  refine ⟨by simp only [Array.size_setIfInBounds]; exact h.sz, h.stl, fun j x hx => ?_, ?_, ?_, ?_, ?_, ?_, ?_, ?_, ?_, ?_, ?_, ?_, ?_, ?_, ?_, ?_, ?_, ?_, ?_⟩
  · have : j < s.store.length := (List.getElem?_eq_some_iff.1 hx).1
    simp only
    rw [Array.getElem?_setIfInBounds_ne (by omega), Array.getElem?_setIfInBounds_ne (by omega), Array.getElem?_setIfInBounds_ne (by omega), Array.getElem?_setIfInBounds_ne (by omega)]
    exact h.st j x hx
  · rw [Array.getElem?_setIfInBounds_ne (by decide)]; rw [Array.getElem?_setIfInBounds_ne (by decide)]; rw [Array.getElem?_setIfInBounds_ne (by decide)]; rw [Array.getElem?_setIfInBounds_ne (by decide)]; exact h.c0
  · rw [Array.getElem?_setIfInBounds_ne (by decide)]; rw [Array.getElem?_setIfInBounds_ne (by decide)]; rw [Array.getElem?_setIfInBounds_ne (by decide)]; rw [Array.getElem?_setIfInBounds_ne (by decide)]; exact h.c1
  · rw [Array.getElem?_setIfInBounds_ne (by decide)]; rw [Array.getElem?_setIfInBounds_ne (by decide)]; rw [Array.getElem?_setIfInBounds_ne (by decide)]; rw [Array.getElem?_setIfInBounds_self_of_lt (by (try simp only [Array.size_setIfInBounds]); omega)]
  · rw [Array.getElem?_setIfInBounds_ne (by decide)]; rw [Array.getElem?_setIfInBounds_ne (by decide)]; rw [Array.getElem?_setIfInBounds_self_of_lt (by (try simp only [Array.size_setIfInBounds]); omega)]
  · rw [Array.getElem?_setIfInBounds_ne (by decide)]; rw [Array.getElem?_setIfInBounds_self_of_lt (by (try simp only [Array.size_setIfInBounds]); omega)]
  · rw [Array.getElem?_setIfInBounds_self_of_lt (by (try simp only [Array.size_setIfInBounds]); omega)]
  · rw [Array.getElem?_setIfInBounds_ne (by decide)]; rw [Array.getElem?_setIfInBounds_ne (by decide)]; rw [Array.getElem?_setIfInBounds_ne (by decide)]; rw [Array.getElem?_setIfInBounds_ne (by decide)]; exact h.c6
  · rw [Array.getElem?_setIfInBounds_ne (by decide)]; rw [Array.getElem?_setIfInBounds_ne (by decide)]; rw [Array.getElem?_setIfInBounds_ne (by decide)]; rw [Array.getElem?_setIfInBounds_ne (by decide)]; exact h.c7
  · rw [Array.getElem?_setIfInBounds_ne (by decide)]; rw [Array.getElem?_setIfInBounds_ne (by decide)]; rw [Array.getElem?_setIfInBounds_ne (by decide)]; rw [Array.getElem?_setIfInBounds_ne (by decide)]; exact h.c40
  · rw [Array.getElem?_setIfInBounds_ne (by decide)]; rw [Array.getElem?_setIfInBounds_ne (by decide)]; rw [Array.getElem?_setIfInBounds_ne (by decide)]; rw [Array.getElem?_setIfInBounds_ne (by decide)]; exact h.c41
  · rw [Array.getElem?_setIfInBounds_ne (by decide)]; rw [Array.getElem?_setIfInBounds_ne (by decide)]; rw [Array.getElem?_setIfInBounds_ne (by decide)]; rw [Array.getElem?_setIfInBounds_ne (by decide)]; exact h.c42
  · rw [Array.getElem?_setIfInBounds_ne (by decide)]; rw [Array.getElem?_setIfInBounds_ne (by decide)]; rw [Array.getElem?_setIfInBounds_ne (by decide)]; rw [Array.getElem?_setIfInBounds_ne (by decide)]; exact h.c43
  · rw [Array.getElem?_setIfInBounds_ne (by decide)]; rw [Array.getElem?_setIfInBounds_ne (by decide)]; rw [Array.getElem?_setIfInBounds_ne (by decide)]; rw [Array.getElem?_setIfInBounds_ne (by decide)]; exact h.c44
  · rw [Array.getElem?_setIfInBounds_ne (by decide)]; rw [Array.getElem?_setIfInBounds_ne (by decide)]; rw [Array.getElem?_setIfInBounds_ne (by decide)]; rw [Array.getElem?_setIfInBounds_ne (by decide)]; exact h.c45
  · rw [Array.getElem?_setIfInBounds_ne (by decide)]; rw [Array.getElem?_setIfInBounds_ne (by decide)]; rw [Array.getElem?_setIfInBounds_ne (by decide)]; rw [Array.getElem?_setIfInBounds_ne (by decide)]; exact h.c46
  · rw [Array.getElem?_setIfInBounds_ne (by decide)]; rw [Array.getElem?_setIfInBounds_ne (by decide)]; rw [Array.getElem?_setIfInBounds_ne (by decide)]; rw [Array.getElem?_setIfInBounds_ne (by decide)]; exact h.c47
  · rw [Array.getElem?_setIfInBounds_ne (by decide)]; rw [Array.getElem?_setIfInBounds_ne (by decide)]; rw [Array.getElem?_setIfInBounds_ne (by decide)]; rw [Array.getElem?_setIfInBounds_ne (by decide)]; exact h.c48
  · rw [Array.getElem?_setIfInBounds_ne (by decide)]; rw [Array.getElem?_setIfInBounds_ne (by decide)]; rw [Array.getElem?_setIfInBounds_ne (by decide)]; rw [Array.getElem?_setIfInBounds_ne (by decide)]; exact h.c49
section
variable {w w' : World} {mb : Nat} {O O' : Nat → Prop} {L : Lay} {s : St}
theorem MaL.org_ (h : MaL w mb O L s) {l : List (Int × Int)} (hl : l.length = s.org.length) (hrow : Row w' O' 76 2 L.og s.org.length (pts l)) (hmb : w'.heap[mb]? = w.heap[mb]?) (hk : ∀ k, O k → k ≠ mb → some k ≠ L.og.ownBlock → w'.heap[k]? = w.heap[k]?) (hO : ∀ k, O k → O' k) (hlt : ∀ k, O' k → k < w'.heap.size) (hok : Ok { s with org := l }) : MaL w' mb O' L { s with org := l } := by
  exact ⟨hO _ h.mbO, hlt, hmb.trans h.blk, ⟨h.c.sz, h.c.stl, h.c.st, h.c.c0, h.c.c1, h.c.c2, h.c.c3, h.c.c4, h.c.c5, h.c.c6, h.c.c7, h.c.c40, h.c.c41, h.c.c42, h.c.c43, h.c.c44, h.c.c45, h.c.c46, h.c.c47, h.c.c48, h.c.c49⟩, h.fu.k h.blk (by decide) hk (fun g hg => h.fu.apart h.og (by decide) g hg) hO, h.fr.k h.blk (by decide) hk (fun g hg => h.fr.apart h.og (by decide) g hg) hO, by rw [hl]; exact hrow, h.cu.k h.blk (by decide) hk (fun g hg => h.ap_cu_og g hg) hO, h.to.k h.blk (by decide) hk (fun g hg => h.to.apart h.og (by decide) g hg) hO, h.en.k h.blk (by decide) hk (fun g hg => h.en.apart h.og (by decide) g hg) hO, h.co.k h.blk (by decide) hk (fun g hg => h.co.apart h.og (by decide) g hg) hO, h.cv.k h.blk (by decide) hk (fun g hg => h.cv.apart h.og (by decide) g hg) hO, h.sk.k h.blk (by decide) hk (fun g hg => h.sk.apart h.og (by decide) g hg) hO, h.fuc.k h.blk hk (fun g cs hb e => by obtain ⟨_, _, cs2, hb2⟩ := h.og.block e; exact hb.ne_ hb2 (by decide) rfl) hO, h.frc.k h.blk hk (fun g cs hb e => by obtain ⟨_, _, cs2, hb2⟩ := h.og.block e; exact hb.ne_ hb2 (by decide) rfl) hO, h.ap_cu_og, h.ap_to_en, h.ap_to_cv, h.ap_to_sk, h.ap_en_cv, h.ap_en_sk, h.ap_cv_sk, h.dd.k h.blk hk (t0 := 76) (by decide) (by decide) (fun g e => by obtain ⟨_, _, cs2, hb2⟩ := h.og.block e; exact ⟨cs2, hb2⟩) hO, hok⟩
theorem MaL.cont_ (h : MaL w mb O L s) {u : Value} {cs' : Array Value} {l : List (Nat × Nat)} (hblk : Blk w' mb 212 cs') (hc : MaC { L with cs := cs', co := u } { s with cont := l }) (hrow : Row w' O' 252 2 u l.length (cts l)) (_hnew : ∀ g, u.ownBlock = some g → L.co.ownBlock = some g ∨ w.heap.size ≤ g) (hk : ∀ k, O k → k ≠ mb → some k ≠ L.co.ownBlock → w'.heap[k]? = w.heap[k]?) (hO : ∀ k, O k → O' k) (hlt : ∀ k, O' k → k < w'.heap.size) (hok : Ok { s with cont := l }) : MaL w' mb O' { L with cs := cs', co := u } { s with cont := l } := by
  exact ⟨hO _ h.mbO, hlt, hblk, hc, h.fu.k h.blk (by decide) hk (fun g hg => h.fu.apart h.co (by decide) g hg) hO, h.fr.k h.blk (by decide) hk (fun g hg => h.fr.apart h.co (by decide) g hg) hO, h.og.k h.blk (by decide) hk (fun g hg => h.og.apart h.co (by decide) g hg) hO, h.cu.k h.blk (by decide) hk (fun g hg => h.cu.apart h.co (by decide) g hg) hO, h.to.k h.blk (by decide) hk (fun g hg => h.to.apart h.co (by decide) g hg) hO, h.en.k h.blk (by decide) hk (fun g hg => h.en.apart h.co (by decide) g hg) hO, hrow, h.cv.k h.blk (by decide) hk (fun g hg => h.cv.apart h.co (by decide) g hg) hO, h.sk.k h.blk (by decide) hk (fun g hg => h.sk.apart h.co (by decide) g hg) hO, h.fuc.k h.blk hk (fun g cs hb e => by obtain ⟨_, _, cs2, hb2⟩ := h.co.block e; exact hb.ne_ hb2 (by decide) rfl) hO, h.frc.k h.blk hk (fun g cs hb e => by obtain ⟨_, _, cs2, hb2⟩ := h.co.block e; exact hb.ne_ hb2 (by decide) rfl) hO, h.ap_cu_og, h.ap_to_en, h.ap_to_cv, h.ap_to_sk, h.ap_en_cv, h.ap_en_sk, h.ap_cv_sk, h.dd.k h.blk hk (t0 := 252) (by decide) (by decide) (fun g e => by obtain ⟨_, _, cs2, hb2⟩ := h.co.block e; exact ⟨cs2, hb2⟩) hO, hok⟩
theorem MaL.funcs_ (h : MaL w mb O L s) {vs : List Value} {fs : List (List (Int × Int))} (hcod : Codes w' O' vs fs) (hrow : Row w' O' 24 1 L.fu fs.length vs) (hmb : w'.heap[mb]? = w.heap[mb]?) (hk : ∀ k, O k → k ≠ mb → some k ≠ L.fu.ownBlock → w'.heap[k]? = w.heap[k]?) (hO : ∀ k, O k → O' k) (hlt : ∀ k, O' k → k < w'.heap.size) (hok : Ok { s with funcs := fs }) : MaL w' mb O' { L with fus := vs } { s with funcs := fs } := by
  exact ⟨hO _ h.mbO, hlt, hmb.trans h.blk, ⟨h.c.sz, h.c.stl, h.c.st, h.c.c0, h.c.c1, h.c.c2, h.c.c3, h.c.c4, h.c.c5, h.c.c6, h.c.c7, h.c.c40, h.c.c41, h.c.c42, h.c.c43, h.c.c44, h.c.c45, h.c.c46, h.c.c47, h.c.c48, h.c.c49⟩, hrow, h.fr.k h.blk (by decide) hk (fun g hg => h.fr.apart h.fu (by decide) g hg) hO, h.og.k h.blk (by decide) hk (fun g hg => h.og.apart h.fu (by decide) g hg) hO, h.cu.k h.blk (by decide) hk (fun g hg => h.cu.apart h.fu (by decide) g hg) hO, h.to.k h.blk (by decide) hk (fun g hg => h.to.apart h.fu (by decide) g hg) hO, h.en.k h.blk (by decide) hk (fun g hg => h.en.apart h.fu (by decide) g hg) hO, h.co.k h.blk (by decide) hk (fun g hg => h.co.apart h.fu (by decide) g hg) hO, h.cv.k h.blk (by decide) hk (fun g hg => h.cv.apart h.fu (by decide) g hg) hO, h.sk.k h.blk (by decide) hk (fun g hg => h.sk.apart h.fu (by decide) g hg) hO, hcod, h.frc.k h.blk hk (fun g cs hb e => by obtain ⟨_, _, cs2, hb2⟩ := h.fu.block e; exact hb.ne_ hb2 (by decide) rfl) hO, h.ap_cu_og, h.ap_to_en, h.ap_to_cv, h.ap_to_sk, h.ap_en_cv, h.ap_en_sk, h.ap_cv_sk, h.dd.k h.blk hk (t0 := 24) (by decide) (by decide) (fun g e => by obtain ⟨_, _, cs2, hb2⟩ := h.fu.block e; exact ⟨cs2, hb2⟩) hO, hok⟩
theorem MaL.zone_ (h : MaL w mb O L s) {cs' : Array Value} {u1 u2 u3 u4 : Value} {l1 l2 : List (Int × Int)} {l3 l4 : List Int} (hblk : Blk w' mb 212 cs') (hc : MaC { L with cs := cs', og := u1, cu := u2, to := u3, en := u4 } { s with org := l1, cur := l2, touch := l3, ends := l4 }) (hog : Row w' O' 76 2 u1 l1.length (pts l1)) (_nog : ∀ g, u1.ownBlock = some g → w.heap.size ≤ g) (hcu : Row w' O' 76 2 u2 l2.length (pts l2)) (_ncu : ∀ g, u2.ownBlock = some g → w.heap.size ≤ g) (hto : Row w' O' 3 1 u3 l3.length (ints l3)) (nto : ∀ g, u3.ownBlock = some g → w.heap.size ≤ g) (hen : Row w' O' 3 1 u4 l4.length (ints l4)) (nen : ∀ g, u4.ownBlock = some g → w.heap.size ≤ g) (a1 : Apart u2 u1) (a2 : Apart u3 u4) (hk : ∀ k, O k → k ≠ mb → some k ≠ none → w'.heap[k]? = w.heap[k]?) (hO : ∀ k, O k → O' k) (hlt : ∀ k, O' k → k < w'.heap.size) (hok : Ok { s with org := l1, cur := l2, touch := l3, ends := l4 }) : MaL w' mb O' { L with cs := cs', og := u1, cu := u2, to := u3, en := u4 } { s with org := l1, cur := l2, touch := l3, ends := l4 } := by
  exact ⟨hO _ h.mbO, hlt, hblk, hc, h.fu.k h.blk (by decide) hk (fun g hg e => by cases e) hO, h.fr.k h.blk (by decide) hk (fun g hg e => by cases e) hO, hog, hcu, hto, hen, h.co.k h.blk (by decide) hk (fun g hg e => by cases e) hO, h.cv.k h.blk (by decide) hk (fun g hg e => by cases e) hO, h.sk.k h.blk (by decide) hk (fun g hg e => by cases e) hO, h.fuc.k h.blk hk (fun g cs hb e => by cases e) hO, h.frc.k h.blk hk (fun g cs hb e => by cases e) hO, a1, a2, (fun g h1 h2 => by have := nto g h1; have := (h.cv.block h2).2.1; omega), (fun g h1 h2 => by have := nto g h1; have := (h.sk.block h2).2.1; omega), (fun g h1 h2 => by have := nen g h1; have := (h.cv.block h2).2.1; omega), (fun g h1 h2 => by have := nen g h1; have := (h.sk.block h2).2.1; omega), h.ap_cv_sk, h.dd.k h.blk hk (t0 := 3) (by decide) (by decide) (fun g e => by cases e) hO, hok⟩
theorem Mc.Ok.org_ (h : Ok s) {l : List (Int × Int)} (h1 : ∀ p ∈ l, K32 p.1 ∧ K32 p.2) (h2 : l.length = s.org.length) : Ok { s with org := l } :=
  ⟨h.stack, h.slen, h.cvt, h.store, h.stl, h.cur, h1, by rw [← h.orgl]; exact h2, h.touch, h.tl, h.size, h.look, h.move, h.mode, h.peak, h.frames, h.flen, h.funcs, h.fnl, h.cont, h.contl, h.curl, h.cvl, h.endl⟩
theorem Mc.Ok.cont_ (h : Ok s) {l : List (Nat × Nat)} (h1 : ∀ c ∈ l, c.1 ≤ c.2 ∧ c.2 < s.cur.length) (h2 : l.length ≤ 1000000) : Ok { s with cont := l } :=
  ⟨h.stack, h.slen, h.cvt, h.store, h.stl, h.cur, h.org, h.orgl, h.touch, h.tl, h.size, h.look, h.move, h.mode, h.peak, h.frames, h.flen, h.funcs, h.fnl, h1, h2, h.curl, h.cvl, h.endl⟩
theorem Mc.Ok.funcs_ (h : Ok s) {l : List (List (Int × Int))} (h1 : ∀ c ∈ l, c.length ≤ 1000000) (h2 : l.length ≤ 1000000) : Ok { s with funcs := l } :=
  ⟨h.stack, h.slen, h.cvt, h.store, h.stl, h.cur, h.org, h.orgl, h.touch, h.tl, h.size, h.look, h.move, h.mode, h.peak, h.frames, h.flen, h1, h2, h.cont, h.contl, h.curl, h.cvl, h.endl⟩
theorem Mc.Ok.zone_ (h : Ok s) (hc : s.cont = []) {l1 l2 : List (Int × Int)} {l3 l4 : List Int} (h1 : ∀ p ∈ l1, K32 p.1 ∧ K32 p.2) (h2 : ∀ p ∈ l2, K32 p.1 ∧ K32 p.2) (h3 : ∀ t ∈ l3, 0 ≤ t ∧ t ≤ 3) (e1 : l1.length = l2.length) (e3 : l3.length = l2.length) (b : l2.length ≤ 1000000) (b4 : l4.length ≤ 1000000) : Ok { s with org := l1, cur := l2, touch := l3, ends := l4 } :=
  ⟨h.stack, h.slen, h.cvt, h.store, h.stl, h2, h1, e1, h3, e3, h.size, h.look, h.move, h.mode, h.peak, h.frames, h.flen, h.funcs, h.fnl, (fun c hcc => by simp only [hc] at hcc; cases hcc), h.contl, b, h.cvl, b4⟩
theorem MaL.layCu (h : MaL w mb O L s) {g m c : Nat} (hv : L.cu = .slice (some ⟨g, 0, none⟩) m c) {i : Nat} (hi : i < s.cur.length) {a b : Int} (ha : K32 a) (hb : K32 b) : MaL ((w.setCell ⟨g, i * 2, none⟩ (.int .i64 a)).setCell ⟨g, i * 2 + 1, none⟩ (.int .i64 b)) mb O L { s with cur := s.cur.set i (a, b) } := by
  have hob : L.cu.ownBlock = some g := by rw [hv]; rfl
  have hg : g ≠ mb := h.cu.ne_blk h.blk (by decide) hob
  refine h.cur_ (by simp) ?_ ((Below.heap_setCell _ _ _ _ hg.symm).trans (Below.heap_setCell _ _ _ _ hg.symm)) (fun k _ _ hk => (Below.heap_setCell _ _ _ _ (fun e => hk (by rw [hob, e]))).trans (Below.heap_setCell _ _ _ _ (fun e => hk (by rw [hob, e])))) (fun _ h => h) (fun k hk => by have := h.olt k hk; simpa [World.setCell] using this) (h.ok.cur_ (fun p hp => ?_) (by simp))
  · rw [pts_setp hi]
    exact (h.cu.set_ hob (by rw [pts_len]; omega) _).set_ hob (by rw [List.length_set, pts_len]; omega) _
  · rcases List.mem_or_eq_of_mem_set hp with hp | rfl
    · exact h.ok.cur p hp
    · exact ⟨ha, hb⟩
theorem MaL.layOg (h : MaL w mb O L s) {g m c : Nat} (hv : L.og = .slice (some ⟨g, 0, none⟩) m c) {i : Nat} (hi : i < s.org.length) {a b : Int} (ha : K32 a) (hb : K32 b) : MaL ((w.setCell ⟨g, i * 2, none⟩ (.int .i64 a)).setCell ⟨g, i * 2 + 1, none⟩ (.int .i64 b)) mb O L { s with org := s.org.set i (a, b) } := by
  have hob : L.og.ownBlock = some g := by rw [hv]; rfl
  have hg : g ≠ mb := h.og.ne_blk h.blk (by decide) hob
  refine h.org_ (by simp) ?_ ((Below.heap_setCell _ _ _ _ hg.symm).trans (Below.heap_setCell _ _ _ _ hg.symm)) (fun k _ _ hk => (Below.heap_setCell _ _ _ _ (fun e => hk (by rw [hob, e]))).trans (Below.heap_setCell _ _ _ _ (fun e => hk (by rw [hob, e])))) (fun _ h => h) (fun k hk => by have := h.olt k hk; simpa [World.setCell] using this) (h.ok.org_ (fun p hp => ?_) (by simp))
  · rw [pts_setp hi]
    exact (h.og.set_ hob (by rw [pts_len]; omega) _).set_ hob (by rw [List.length_set, pts_len]; omega) _
  · rcases List.mem_or_eq_of_mem_set hp with hp | rfl
    · exact h.ok.org p hp
    · exact ⟨ha, hb⟩
theorem MaL.toured {w1 : World} (h : MaL w mb O L s) {u : Value} {c : Nat × Nat} (hc : c.1 ≤ c.2 ∧ c.2 < s.cur.length) (hl : s.cont.length < 1000000)
    (hrow : Row w1 (ext O w w1) 252 2 u (s.cont.length + 1) (cts s.cont ++ [.int .i64 c.1, .int .i64 c.2])) (hg : w.grownBy w1 L.co.ownBlock) (hnew : ∀ g, u.ownBlock = some g → L.co.ownBlock = some g ∨ w.heap.size ≤ g) :
    (∃ cs, Blk w1 mb 212 cs ∧ cs.size = 50) ∧ (∃ L', MaL (w1.setCell ⟨mb, 6, none⟩ u) mb (ext O w w1) L' { s with cont := s.cont ++ [c] }) ∧ Fr O w (w1.setCell ⟨mb, 6, none⟩ u) := by
  have hmb : Blk w1 mb 212 L.cs := h.blk.grown hg fun e => h.co.ne_blk h.blk (by decide) e.symm rfl
  have hz := hg.size
  refine ⟨⟨_, hmb, h.c.sz⟩, ⟨_, h.cont_ (u := u) (l := s.cont ++ [c]) (hmb.set_ 6 u) (h.c.setCo _ _) ?_ hnew ?_ (fun _ h => .inl h) ?_ (h.ok.cont_ ?_ ?_)⟩, ?_⟩
  · have := hrow.keep (w' := w1.setCell ⟨mb, 6, none⟩ u) (O' := ext O w w1) (fun g hgb => Below.heap_setCell _ _ _ _ (fun (e : g = mb) => hrow.ne_blk hmb (by decide) hgb e)) (fun _ h => h)
    simpa [cts] using this
  · intro k hk h1 h2
    rw [Below.heap_setCell _ _ _ _ h1]
    exact hg.block k (h.olt k hk) h2
  · intro k hk
    have := h.ext_lt hz k hk
    simpa [World.setCell] using this
  · intro y hy
    rcases List.mem_append.1 hy with hy | hy
    · exact h.ok.cont y hy
    · simp only [List.mem_singleton] at hy
      subst hy
      exact hc
  · simp only [List.length_append, List.length_singleton]; omega
  · exact Fr.setCell (⟨hg.os, hg.tape, hg.output, hg.size, fun k hk hs => hg.block k hk (fun e => hs (h.co.2 k e.symm))⟩) (.inl h.mbO) _
theorem Codes.set_ {w : World} {O : Nat → Prop} : ∀ {vs : List Value} {cs : List (List (Int × Int))} (i : Nat) {v : Value} {c : List (Int × Int)}, Codes w O vs cs → Row w O 96 2 v c.length (pts c) → Codes w O (vs.set i v) (cs.set i c)
  | [], [], _, _, _, h, _ => h
  | _ :: _, _ :: _, 0, _, _, h, hr => ⟨hr, h.2⟩
  | _ :: _, _ :: _, i + 1, _, _, h, hr => ⟨h.1, Codes.set_ i h.2 hr⟩
  | [], _ :: _, _, _, _, h, _ => h.elim
  | _ :: _, [], _, _, _, h, _ => h.elim
theorem MaL.setFu (h : MaL w mb O L s) {g m c : Nat} (hv : L.fu = .slice (some ⟨g, 0, none⟩) m c) {i : Nat} (hi : i < s.funcs.length) {v : Value} {code : List (Int × Int)} (hr : Row w O' 96 2 v code.length (pts code)) (hcl : code.length ≤ 1000000) (hO : ∀ k, O k → O' k) (hlt : ∀ k, O' k → k < w.heap.size) :
    MaL (w.setCell ⟨g, i, none⟩ v) mb O' { L with fus := L.fus.set i v } { s with funcs := s.funcs.set i code } := by
  have hob : L.fu.ownBlock = some g := by rw [hv]; rfl
  have hg : g ≠ mb := h.fu.ne_blk h.blk (by decide) hob
  obtain ⟨_, _, csg, hbg⟩ := h.fu.block hob
  refine h.funcs_ (w' := w.setCell ⟨g, i, none⟩ v) (vs := L.fus.set i v) (fs := s.funcs.set i code) ?_ ?_ (Below.heap_setCell _ _ _ _ hg.symm) (fun k _ _ hk => Below.heap_setCell _ _ _ _ (fun e => hk (by rw [hob, e]))) hO (fun k hk => by have := hlt k hk; simpa [World.setCell] using this) (h.ok.funcs_ (fun p hp => ?_) (by simpa using h.ok.fnl))
  · refine Codes.set_ i (h.fuc.keep (fun k cs _ hb => Below.heap_setCell _ _ _ _ (hb.ne_ hbg (by decide))) hO) (hr.keep (fun k hk => ?_) (fun _ h => h))
    obtain ⟨_, _, cs, hb⟩ := hr.block hk
    exact Below.heap_setCell _ _ _ _ (hb.ne_ hbg (by decide))
  · rw [List.length_set]
    have := (h.fu.set_ hob (j := i) (by rw [← h.fuc.len] at hi; exact hi) v).keep (w' := w.setCell ⟨g, i, none⟩ v) (O' := O') (fun _ _ => rfl) hO
    exact this
  · rcases List.mem_or_eq_of_mem_set hp with hp | rfl
    · exact h.ok.funcs p hp
    · exact hcl
end
end Go.Proofs.YtnhebmgibiomnaaGreat
