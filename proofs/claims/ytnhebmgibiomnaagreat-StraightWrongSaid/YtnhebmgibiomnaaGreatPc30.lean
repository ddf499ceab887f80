/- Parts of the proof, joined: BuP. -/
import Derived.Test.YtnhebmgibiomnaaGreatPc20
import Derived.Test.YtnhebmgibiomnaaGreatPc29
set_option linter.unusedVariables false
set_option linter.unusedSimpArgs false
namespace Go.Proofs.YtnhebmgibiomnaaGreat
namespace Sm
open Mc Hd
theorem At.piece {code : List Sr.Reg} {g : Nat → List Sr.Reg} {ls : List (List Sr.Reg)} (hl : ∀ k, (g k).length = (ls.getD k []).length) : ∀ (n pc : Nat), n ≤ ls.length → At code pc ((List.range n).flatMap g) → ((List.range n).flatMap g).length = Bu.begins ls n ∧ ∀ k, k < n → At code (pc + Bu.begins ls k) (g k) := by
  intro n
  induction n with
  | zero => intro pc _ _; exact ⟨by simp [Bu.begins], fun k hk => by omega⟩
  | succ n ih =>
    intro pc hn h
    rw [List.range_succ, List.flatMap_append, List.flatMap_singleton] at h ⊢
    obtain ⟨h1, h2⟩ := ih pc (by omega) h.left
    have hb := (Bu.begins_succ ls (i := n) (l := ls.getD n []) (by rw [List.getD_eq_getElem?_getD, List.getElem?_eq_getElem (by omega)]; rfl)).1
    refine ⟨by rw [List.length_append, h1, hb, hl n], fun k hk => ?_⟩
    by_cases hkn : k < n
    · exact h2 k hkn
    · obtain rfl : k = n := by omega
      rw [← h1]
      exact h.right
theorem not_jump {op : Int} (h : ¬ (op = 35 ∨ op = 36)) : Bu.isJump op = false := by unfold Bu.isJump; simpa using h
theorem loopE_len (body : List Sr.Reg) (top loops : Int) : (Bu.loopE body top loops).length = 1 + 16 * (1 + body.length) := by
  unfold Bu.loopE
  rw [List.length_cons, List.length_flatMap, show List.range 16 = [0, 1, 2, 3, 4, 5, 6, 7, 8, 9, 10, 11, 12, 13, 14, 15] from rfl]
  simp
  omega
set_option maxHeartbeats 4000000 in
theorem pass_sim {fl : List (List (Int × Int))} {l : List (Int × Int)} {fs : List Bd.Cost} {ps : List Bu.Plan} {p : Bu.Plan} {c : Bd.Cost} {P : List Bd.Place} {es : List Bu.Emit} {code : List Sr.Reg} (htab : Tab l.length fs l c P) (hpl : Bu.PlanOf fs ps l p P) (hF : fs.length ≤ fl.length)
    (hg : ∀ j cj, fs[j]? = some cj → GoodS fl code es j cj ∧ 0 ≤ cj.steps ∧ 0 ≤ cj.peak) (hz : ∀ j : Nat, j < fs.length → 0 ≤ (Bu.pl ps j).size ∧ ((Bu.pl ps j).size ≤ 0 → ∀ high loops, Bu.em es j high loops = []))
    (base : Nat) (h0 : Int) (loops : Nat) (hcode : At code base (Bu.emitE es p h0 loops)) :
    ∀ (d at_ : Nat) (s : St) (m : Nat) (r : List Fm) (q : Sr.St), at_ + d = l.length → s.frames = ⟨l, at_, m⟩ :: r → s.ended = false → s.err = 0 → s.funcs = fl → Bu.kn fs ps l at_ = true → (s.stack.length : Int) = h0 + (Bd.pat P at_).high → c.need ≤ h0 → h0 + c.peak ≤ 32 → r.length + 1 + fs.length ≤ 21 → loops ≤ r.length → s.stack.length ≤ 32 → Sim s q → q.pc = base + Bu.begins (Bu.pieces es p h0 loops) (Bu.cnt fs ps l at_) →
    ∃ k t n q', Goes k s t ∧ Out s t k (⟨l, l.length, m⟩ :: r) (h0 + c.peak) ∧ (t.stack.length : Int) = h0 + c.delta ∧ (Bd.pat P at_).steps + k ≤ c.steps ∧ RGoes code n q q' ∧ q'.pc = base + (Bu.emitE es p h0 loops).length ∧ Sim t q' ∧ Keep loops q q' := by
  have hpn : (Bu.pieces es p h0 loops).length = p.steps.length := Bu.pieces_len es p h0 loops
  have hpc : ∀ (i : Nat) s, p.steps[i]? = some s → (Bu.pieces es p h0 loops)[i]? = some (Bu.stepE es (s.op, s.a) (h0 + s.high) loops) := fun i s hs => by
    unfold Bu.pieces
    rw [List.getElem?_map, hs]
    rfl
  obtain ⟨hEl, hEp⟩ := At.piece (Bu.fixed_len (Bu.pieces es p h0 loops) p.steps) p.steps.length base (by omega) hcode
  have hEl : (Bu.emitE es p h0 loops).length = Bu.begins (Bu.pieces es p h0 loops) p.steps.length := hEl
  rw [hEl]
  generalize Bu.pieces es p h0 loops = ls at *
  intro d
  induction d using Nat.strongRecOn with
  | _ d ih =>
  intro at_ s m r q hd hfr hen her hfu hk hsl hn hp hr hlp h32 hS hq
  by_cases hd0 : d = 0
  · have hat : at_ = l.length := by omega
    subst hat
    refine ⟨0, s, 0, q, ⟨s, rfl, Eqv.refl hen⟩, ⟨hfr, hen, her, rfl, rfl, by omega⟩, ?_, ?_, RGoes.refl _ _, by rw [hq, hpl.fin], hS, Keep.refl _ _⟩
    · rw [hsl, htab.de]
    · rw [htab.st]; omega
  · have hlt : at_ < l.length := by omega
    obtain ⟨x, hx⟩ : ∃ x, l[at_]? = some x := ⟨l[at_], List.getElem?_eq_getElem hlt⟩
    have hok := htab.ok at_ x hx
    have hkp := hpl.known at_ (by omega) hk
    obtain ⟨hwk, hstp⟩ := hpl.step at_ x hx hk
    obtain ⟨a1, a2, a3⟩ := always_ok hok.al
    obtain ⟨b1, b2, b3, b4⟩ := hok.kn hkp
    have ht := takes_eq x.1
    have hl := leaves_eq x.1
    have hw := ways_nat hok.al hlt
    have c1 : takes x.1 ≤ s.stack.length := by
      by_cases hc : x.1 = 37 ∨ x.1 = 38
      · rw [effect_call hc] at b1; simp only at b1; omega
      · rw [effect_plain hc] at b1; simp only at b1; omega
    have c2 : s.stack.length + leaves x.1 ≤ 32 + takes x.1 := by
      by_cases hc : x.1 = 37 ∨ x.1 = 38
      · rw [effect_call hc] at b2; simp only at b2; omega
      · rw [effect_plain hc] at b2; simp only at b2; omega
    have hstep := one_step hfr hen hx a1 c1 c2 a2 (fun q => by have := a3 q; rw [hfu]; omega)
    have hst := deed_stack x.1 x.2 { s with frames := ⟨l, at_ + 1, m⟩ :: r, err := 0, ended := false } a1.1 a1.2
    have hsm := deed_same x.1 x.2 { s with frames := ⟨l, at_ + 1, m⟩ :: r, err := 0, ended := false }
    obtain ⟨m1, m2, m3, m4, m5⟩ := hsm
    simp only at hst m1 m2 m3 m4 m5
    have hSd : Sim { s with frames := ⟨l, at_ + 1, m⟩ :: r, err := 0, ended := false } q := hS.eqv s.funcs (⟨l, at_ + 1, m⟩ :: r) s.steps s.peak false 0
    generalize hdd : deed x.1 x.2 { s with frames := ⟨l, at_ + 1, m⟩ :: r, err := 0, ended := false } = t at *
    have hgo := Goes.one hstep m2
    have hSt : ∀ q2, Sim t q2 → Sim { t with steps := t.steps + 1, peak := max t.peak t.stack.length } q2 := fun q2 h => h.eqv t.funcs t.frames (t.steps + 1) (max t.peak t.stack.length) t.ended t.err
    generalize hs1 : ({ t with steps := t.steps + 1, peak := max t.peak t.stack.length } : St) = s1 at *
    have e1 : s1.frames = t.frames := by rw [← hs1]
    have e2 : s1.stack = t.stack := by rw [← hs1]
    have e3 : s1.ended = false := by rw [← hs1]; exact m2
    have e4 : s1.err = 0 := by rw [← hs1]; exact m3
    have e5 : s1.funcs = fl := by rw [← hs1]; exact m1.trans hfu
    have e6 : s1.steps = s.steps + 1 := by rw [← hs1, ← m4]
    have e7 : s1.peak = max s.peak t.stack.length := by rw [← hs1, ← m5]
    have hO : ∀ X, s1.frames = X → Out s s1 1 X (h0 + c.peak) := fun X hX => by
      refine ⟨hX, e3, e4, e5.trans hfu.symm, e6, ?_⟩
      have : (t.stack.length : Int) ≤ h0 + c.peak := by
        by_cases hc : x.1 = 37 ∨ x.1 = 38
        · rw [effect_call hc] at b2; simp only at b2; omega
        · rw [effect_plain hc] at b2; simp only at b2; omega
      omega
    have heh : (Bd.effect fs (Bd.pat P at_) x).high ≤ (Bd.effect fs (Bd.pat P at_) x).peak := by
      by_cases hc : x.1 = 37 ∨ x.1 = 38
      · rw [effect_call hc]; simp only; omega
      · rw [effect_plain hc]; exact Int.le_refl _
    have on : ∀ (k : Nat) (s2 : St) (u : Nat) (n : Nat) (q2 : Sr.St), Goes k s s2 → Out s s2 k (⟨l, u, m⟩ :: r) (h0 + c.peak) → (u : Int) ∈ Bd.ways at_ x → (s2.stack.length : Int) = h0 + (Bd.effect fs (Bd.pat P at_) x).high → (Bd.pat P at_).steps + k ≤ (Bd.effect fs (Bd.pat P at_) x).steps → RGoes code n q q2 → q2.pc = base + Bu.begins ls (Bu.cnt fs ps l u) → Sim s2 q2 → Keep loops q q2 →
        ∃ k t n q', Goes k s t ∧ Out s t k (⟨l, l.length, m⟩ :: r) (h0 + c.peak) ∧ (t.stack.length : Int) = h0 + c.delta ∧ (Bd.pat P at_).steps + k ≤ c.steps ∧ RGoes code n q q' ∧ q'.pc = base + Bu.begins ls p.steps.length ∧ Sim t q' ∧ Keep loops q q' := by
      intro k s2 u n q2 g o hu hs2 hk2 rg hq2 hS2 hK2
      obtain ⟨u', hu', q1, q2'⟩ := hw u hu
      obtain ⟨w1, w2, w3⟩ := b4 u hu
      obtain ⟨k', t', n', q', g', o', f1, f2, f3, f4, f5, f6⟩ := ih (l.length - u) (by omega) u s2 m r q2 (by omega) o.fr o.en o.er (o.fu.trans hfu) (hwk u hu) (by rw [hs2, w2]) hn hp hr hlp (by have := heh; omega) hS2 hq2
      exact ⟨k + k', t', _, q', g.trans g', o.trans o' (Int.le_refl _) (Int.le_refl _), f1, by omega, rg.trans f3, f4, f5, hK2.trans f6⟩
    have hnx : x.1 ≠ 35 → ((at_ + 1 : Nat) : Int) ∈ Bd.ways at_ x := fun h => by
      unfold Bd.ways
      rw [if_neg h]
      simp
    have own : 0 < Bu.sizeOf x ps → p.steps[Bu.cnt fs ps l at_]? = some ⟨x.1, x.2, (Bd.pat P at_).high, Bu.cnt fs ps l (at_ + 1 + Bu.jump x)⟩ ∧ Bu.cnt fs ps l (at_ + 1) = Bu.cnt fs ps l at_ + 1 ∧ At code q.pc (Bu.fixed ls p.steps (Bu.cnt fs ps l at_)) ∧ ls[Bu.cnt fs ps l at_]? = some (Bu.stepE es x s.stack.length loops) ∧ (¬ (x.1 = 35 ∨ x.1 = 36) → Bu.fixed ls p.steps (Bu.cnt fs ps l at_) = Bu.stepE es x s.stack.length loops ∧ base + Bu.begins ls (Bu.cnt fs ps l (at_ + 1)) = q.pc + (Bu.stepE es x s.stack.length loops).length) := by
      intro hpos
      rcases hstp with ⟨_, s2, s3⟩ | ⟨h, _⟩
      · have hpce := hpc _ _ s2
        simp only at hpce
        rw [← hsl, show (x.1, x.2) = x from rfl] at hpce
        have hcl := (List.getElem?_eq_some_iff.1 s2).1
        refine ⟨s2, s3, by rw [hq]; exact hEp _ hcl, hpce, fun hj => ⟨?_, ?_⟩⟩
        · unfold Bu.fixed
          simp only [s2, not_jump hj, Bool.false_eq_true, if_false]
          rw [List.getD_eq_getElem?_getD, hpce]
          rfl
        · rw [s3, (Bu.begins_succ ls hpce).1, hq]
          omega
      · omega
    by_cases hc : x.1 = 37 ∨ x.1 = 38
    · obtain ⟨q1, q2⟩ := a3 hc
      obtain ⟨j, hj⟩ : ∃ j : Nat, x.2 = j := ⟨x.2.toNat, by omega⟩
      have hjl : j < fs.length := by omega
      obtain ⟨cj, hcj⟩ : ∃ cj, fs[j]? = some cj := ⟨fs[j], List.getElem?_eq_getElem hjl⟩
      obtain ⟨hG, hs0, hp0⟩ := hg j cj hcj
      have hfn : Bd.fn fs x.2 = cj := by unfold Bd.fn; rw [hj, List.getD_eq_getElem?_getD, Int.toNat_natCast, hcj]; rfl
      have hnx := hnx (by omega)
      have hef := effect_call (fs := fs) (p := Bd.pat P at_) hc
      rw [hfn] at hef
      rw [hef] at b1 b2
      simp only at b1 b2
      rcases hc with hc | hc
      · have htk : takes x.1 = 0 ∧ leaves x.1 = 0 := by rw [hc]; exact ⟨rfl, rfl⟩
        have htt : t = { s with frames := ⟨fl.getD j [], 0, 0⟩ :: ⟨l, at_ + 1, m⟩ :: r, err := 0, ended := false } := by
          rw [← hdd, hc, hj]
          show call _ (j : Int) 1 = _
          unfold call
          rw [if_pos (by omega)]
          simp only [Int.toNat_natCast, hfu]
          rfl
        have hfr1 : s1.frames = ⟨fl.getD j [], 0, 0⟩ :: ⟨l, at_ + 1, m⟩ :: r := by rw [e1, htt]
        have hS1 : Sim s1 q := hSt q (by rw [htt]; exact hSd.eqv s.funcs (⟨fl.getD j [], 0, 0⟩ :: ⟨l, at_ + 1, m⟩ :: r) s.steps s.peak false 0)
        have hem : At code q.pc (Bu.em es j s1.stack.length loops) ∧ base + Bu.begins ls (Bu.cnt fs ps l (at_ + 1)) = q.pc + (Bu.em es j s1.stack.length loops).length := by
          have hsle : (s1.stack.length : Int) = s.stack.length := by rw [e2]; omega
          rw [hsle]
          have hstE : Bu.stepE es x s.stack.length loops = Bu.em es j s.stack.length loops := by
            unfold Bu.stepE
            rw [hc, hj]
            simp
          by_cases hpos : 0 < Bu.sizeOf x ps
          · obtain ⟨_, _, o3, _, o5⟩ := own hpos
            obtain ⟨o6, o7⟩ := o5 (by omega)
            rw [o6, hstE] at o3
            rw [hstE] at o7
            exact ⟨o3, o7⟩
          · have hsz : Bu.sizeOf x ps = (Bu.pl ps j).size := by
              unfold Bu.sizeOf
              rw [hc, hj]
              simp
            have he := (hz j hjl).2 (by omega) s.stack.length loops
            rw [he]
            rcases hstp with ⟨h, _⟩ | ⟨_, h⟩
            · omega
            · rw [h, hq]
              exact ⟨fun i r hr => by simp at hr, rfl⟩
        obtain ⟨k1, t1, n1, q1', g1, o1, f1, f2, f3, f4, f5, f6⟩ := hG s1 0 _ q loops hfr1 e3 e4 e5 (by rw [e2]; omega) (by rw [e2]; omega) (by simp only [List.length_cons]; omega) (by simp only [List.length_cons]; omega) hS1 hem.1
        obtain ⟨l1, l2⟩ := o1.left (Y := ⟨l, at_ + 1, m⟩ :: r) settle_end.symm
        refine on (1 + k1) _ (at_ + 1) n1 q1' (hgo.trans (g1.eqv l1)) ((hO _ rfl).trans l2 (Int.le_refl _) (by rw [e2]; omega)) hnx (by rw [hef]; simp only; rw [f1, e2]; omega) ?_ f3 (by rw [f4, hem.2]) (f5.eqv t1.funcs (⟨l, at_ + 1, m⟩ :: r) t1.steps t1.peak t1.ended t1.err) f6
        rw [hef]
        simp only
        rw [if_neg (by omega)]
        omega
      · have htk : takes x.1 = 1 ∧ leaves x.1 = 0 := by rw [hc]; exact ⟨rfl, rfl⟩
        have hdel : cj.delta = 0 := by have := b3 hc; rwa [hfn] at this
        have hslp : 1 ≤ s.stack.length := by omega
        have hX : Sr.get q ((s.stack.length : Int) - 1) = s.stack.getD 0 0 := hS.top rfl hslp
        have hXF := getD_F hS.kp.stack 0
        have htt : t = { s with stack := s.stack.drop 1, frames := if 0 < min (s.stack.getD 0 0) 16 then ⟨fl.getD j [], 0, (min (s.stack.getD 0 0) 16 - 1).toNat⟩ :: ⟨l, at_ + 1, m⟩ :: r else ⟨l, at_ + 1, m⟩ :: r, err := 0, ended := false } := by
          rw [← hdd, hc, hj]
          show call _ (j : Int) (min (s.stack.getD 0 0) 16) = _
          unfold call
          split
          · simp only [Int.toNat_natCast, hfu]
          · rfl
        have hfr1 : s1.frames = if 0 < min (s.stack.getD 0 0) 16 then ⟨fl.getD j [], 0, (min (s.stack.getD 0 0) 16 - 1).toNat⟩ :: ⟨l, at_ + 1, m⟩ :: r else ⟨l, at_ + 1, m⟩ :: r := by rw [e1, htt]
        generalize hXX : s.stack.getD 0 0 = X at *
        have hpos : 0 < Bu.sizeOf x ps := by
          have h1 := (hz j hjl).1
          have : Bu.sizeOf x ps = 1 + 16 * (1 + (Bu.pl ps j).size) := by
            unfold Bu.sizeOf
            rw [hc, hj]
            simp
          omega
        obtain ⟨_, _, o3, _, o5⟩ := own hpos
        obtain ⟨o6, o7⟩ := o5 (by omega)
        have hslI : ((s1.stack.length : Nat) : Int) = (s.stack.length : Int) - 1 := by rw [e2]; omega
        have hstE : Bu.stepE es x s.stack.length loops = Bu.loopE (Bu.em es j s1.stack.length ((loops : Int) + 1)) s1.stack.length loops := by
          unfold Bu.stepE
          rw [hc, hj, hslI]
          simp
        rw [o6, hstE] at o3
        rw [hstE, loopE_len] at o7
        have o3' := o3
        unfold Bu.loopE at o3'
        obtain ⟨g0, p0⟩ := goes1 (q := q) o3'.head (by simp) (leaps_not (by simp))
        have hq0 : Sr.deed ⟨40, 32 + (loops : Int), s1.stack.length, 0, 0⟩ { q with pc := q.pc + 1, steps := q.steps + 1 } = Sr.put { q with pc := q.pc + 1, steps := q.steps + 1 } (32 + (loops : Int)) X := by
          show Sr.put _ (32 + (loops : Int)) (k32 (Sr.get q (s1.stack.length : Int))) = _
          rw [hslI, hX, hXF]
        rw [hq0] at g0 p0
        have hK0 : Keep loops q (Sr.put { q with pc := q.pc + 1, steps := q.steps + 1 } (32 + (loops : Int)) X) := by
          rw [← hq0]
          exact keep_deed (.inr (by show 32 + loops ≤ (32 + (loops : Int)).toNat; omega)) q _ _
        have hS0 : Sim s1 (Sr.put { q with pc := q.pc + 1, steps := q.steps + 1 } (32 + (loops : Int)) X) := by
          refine (Sim.go ?_ _ _).aside X (by rw [e2]; omega)
          refine hSt q ?_
          rw [htt]
          exact (hS.drop 1).eqv s.funcs _ s.steps s.peak false 0
        have hcn : (Sr.put { q with pc := q.pc + 1, steps := q.steps + 1 } (32 + (loops : Int)) X).regs.getD (32 + loops) 0 = X := by
          simp only [Sr.put, List.getD_eq_getElem?_getD, List.getElem?_set]
          rw [if_pos (by omega), if_pos (by rw [hS.rl]; omega)]
          rfl
        have hats : ∀ i : Nat, i < 16 → At code (q.pc + 1 + i * (1 + (Bu.em es j s1.stack.length ((loops : Int) + 1)).length)) (⟨41, 0, 32 + (loops : Int), (i : Int), (16 - (i : Int)) * (1 + ((Bu.em es j s1.stack.length ((loops : Int) + 1)).length : Int)) - 1⟩ :: Bu.em es j s1.stack.length ((loops : Int) + 1)) := by
          intro i hi
          have := At.flat (code := code) (L := 1 + (Bu.em es j s1.stack.length ((loops : Int) + 1)).length) (fun k => by rw [List.length_cons]; omega) 16 (q.pc + 1) o3'.tail i hi
          exact this
        generalize hqe : Sr.put { q with pc := q.pc + 1, steps := q.steps + 1 } (32 + (loops : Int)) X = qe at *
        generalize hLe : (Bu.em es j s1.stack.length ((loops : Int) + 1)).length = L at *
        by_cases hm : 0 < min X 16
        · rw [if_pos hm] at hfr1
          generalize hmm : (min X 16 - 1).toNat = mm at *
          have hmm1 : mm ≤ 15 := by omega
          obtain ⟨k1, t1, n1, q1', g1, o1, f1, f2, f3, f4, f5, f6⟩ := loop_sim hG hdel loops X (q.pc + 1) L s1.stack.length hLe hats mm 0 s1 _ qe (by omega) rfl hfr1 e3 e4 e5 (by rw [e2]; omega) (by rw [e2]; omega) (by simp only [List.length_cons]; omega) (by simp only [List.length_cons]; omega) hS0 (by rw [p0]; omega) hcn
          have h16 : ((mm : Int) + 1) * cj.steps ≤ 16 * cj.steps := Int.mul_le_mul_of_nonneg_right (by omega) hs0
          refine on (1 + k1) _ (at_ + 1) _ q1' (hgo.trans g1) ((hO _ rfl).trans o1 (Int.le_refl _) (by rw [e2]; omega)) hnx (by rw [hef]; simp only; rw [f1, e2]; omega) ?_ (g0.trans f3) (by rw [f4, o7]; omega) f5 (hK0.trans f6)
          rw [hef]
          simp only
          rw [if_pos hc]
          omega
        · rw [if_neg hm] at hfr1
          have ha0 := hats 0 (by omega)
          rw [Nat.zero_mul, Nat.add_zero, ← p0] at ha0
          have g1 := goes_pass ha0.head
          have hget : Sr.get qe (32 + (loops : Int)) = X := by unfold Sr.get; rw [show (32 + (loops : Int)).toNat = 32 + loops by omega]; exact hcn
          rw [hget, if_pos (by omega)] at g1
          refine on 1 s1 (at_ + 1) _ _ hgo (hO _ hfr1) hnx (by rw [hef]; simp only; rw [e2]; omega) ?_ (g0.trans g1) ?_ (hS0.go _ _) hK0
          · rw [hef]
            simp only
            rw [if_pos hc]
            omega
          · have hfar := far_end 0 L (by omega)
            simp only
            rw [p0, o7]
            omega
    · have hef := effect_plain (fs := fs) (p := Bd.pat P at_) hc
      have hpos : 0 < Bu.sizeOf x ps := by
        unfold Bu.sizeOf
        split
        · omega
        · rw [if_neg (by omega), if_neg (by omega)]; omega
      obtain ⟨o1, o2, o3, o4, o5⟩ := own hpos
      have hfin : ∀ (u n : Nat) (q2 : Sr.St), s1.frames = ⟨l, u, m⟩ :: r → (u : Int) ∈ Bd.ways at_ x → RGoes code n q q2 → q2.pc = base + Bu.begins ls (Bu.cnt fs ps l u) → Sim t q2 → Keep loops q q2 → ∃ k t n q', Goes k s t ∧ Out s t k (⟨l, l.length, m⟩ :: r) (h0 + c.peak) ∧ (t.stack.length : Int) = h0 + c.delta ∧ (Bd.pat P at_).steps + k ≤ c.steps ∧ RGoes code n q q' ∧ q'.pc = base + Bu.begins ls p.steps.length ∧ Sim t q' ∧ Keep loops q q' := fun u n q2 h1 h2 h3 h4 h5 h6 =>
        on 1 s1 u n q2 hgo (hO _ h1) h2 (by rw [hef]; simp only; rw [e2]; omega) (by rw [hef]; simp only; omega) h3 h4 (hSt q2 h5) h6
      by_cases hjm : x.1 = 35 ∨ x.1 = 36
      · obtain ⟨j, hj⟩ : ∃ j : Nat, x.2 = j := ⟨x.2.toNat, by have := a2 hjm; omega⟩
        have hjj : Bu.jump x = j := by unfold Bu.jump; rw [if_pos hjm, hj, Int.toNat_natCast]
        have htl : at_ + 1 + j ≤ l.length := by have := a2 hjm; omega
        have hcm := Bu.cnt_mono fs ps l (i := at_ + 1) (j := at_ + 1 + j) (by omega) htl
        have hbg := Bu.begins_le ls _ _ hcm
        rw [hjj] at o1
        have hbs := (Bu.begins_succ ls o4).1
        rw [← o2] at hbs
        have hcl := (List.getElem?_eq_some_iff.1 o1).1
        have hfx : Bu.fixed ls p.steps (Bu.cnt fs ps l at_) = Bu.setN (Bu.stepE es x s.stack.length loops) ((Bu.begins ls (Bu.cnt fs ps l (at_ + 1 + j)) : Int) - Bu.begins ls (Bu.cnt fs ps l at_) - 1) := by
          unfold Bu.fixed
          simp only [o1]
          rw [if_pos (by unfold Bu.isJump; simpa using hjm), List.getD_eq_getElem?_getD, o4]
          rfl
        rw [hfx] at o3
        have htgt : ((at_ + 1 + j : Nat) : Int) ∈ Bd.ways at_ x := by
          unfold Bd.ways
          rw [if_pos (c := Bd.jumps x.1 = true) (by simpa [Bd.jumps] using hjm), hj]
          simp
        rcases hjm with h35 | h36
        · have hsE : Bu.stepE es x s.stack.length loops = [⟨35, 0, 0, 0, 0⟩] := by
            unfold Bu.stepE
            rw [h35]
            simp
          rw [hsE] at o3 hbs
          simp only [List.length_cons, List.length_nil] at hbs
          have g := goes_jump (o3.head)
          have htt : t = { s with frames := ⟨l, at_ + 1 + j, m⟩ :: r, err := 0, ended := false } := by
            rw [← hdd, h35, hj]
            rfl
          refine hfin (at_ + 1 + j) _ _ (by rw [e1, htt]) htgt g ?_ ?_ (fun _ _ => rfl)
          · simp only
            rw [hq]
            omega
          · rw [htt]
            exact (hSd.eqv s.funcs (⟨l, at_ + 1 + j, m⟩ :: r) s.steps s.peak false 0).go _ _
        · have hsE : Bu.stepE es x s.stack.length loops = [⟨36, 0, (s.stack.length : Int) - 1, 0, 0⟩] := by
            unfold Bu.stepE
            rw [h36]
            simp
          rw [hsE] at o3 hbs
          simp only [List.length_cons, List.length_nil] at hbs
          have htk : takes x.1 = 1 := by rw [h36]; rfl
          have g := goes_jumpZ (o3.head)
          rw [hS.top rfl (by omega)] at g
          have htt : t = if s.stack.getD 0 0 = 0 then { s with stack := s.stack.drop 1, frames := ⟨l, at_ + 1 + j, m⟩ :: r, err := 0, ended := false } else { s with stack := s.stack.drop 1, frames := ⟨l, at_ + 1, m⟩ :: r, err := 0, ended := false } := by
            rw [← hdd, h36, hj]
            show (ite (s.stack.getD 0 0 = 0) _ _ : St) = _
            split <;> rfl
          by_cases hzr : s.stack.getD 0 0 = 0
          · rw [if_pos hzr] at htt g
            refine hfin (at_ + 1 + j) _ _ (by rw [e1, htt]) htgt g ?_ ?_ (fun _ _ => rfl)
            · simp only
              rw [hq]
              omega
            · rw [htt]
              exact ((hS.drop 1).eqv s.funcs (⟨l, at_ + 1 + j, m⟩ :: r) s.steps s.peak false 0).go _ _
          · rw [if_neg hzr] at htt g
            refine hfin (at_ + 1) _ _ (by rw [e1, htt]) (hnx (by omega)) g ?_ ?_ (fun _ _ => rfl)
            · simp only
              rw [hq, hbs]
              omega
            · rw [htt]
              exact ((hS.drop 1).eqv s.funcs (⟨l, at_ + 1, m⟩ :: r) s.steps s.peak false 0).go _ _
      · obtain ⟨o6, o7⟩ := o5 hjm
        rw [o6] at o3
        obtain ⟨n, q2, g, e8, e9, e10⟩ := piece_sim (es := es) (code := code) hSd (op := x.1) (a := x.2) a1 ⟨by omega, by omega, by omega, by omega⟩ c1 c2 h32 loops (by omega) (next := (s.stack.length : Int)) rfl o3
        rw [hdd] at e9
        refine hfin (at_ + 1) n q2 ?_ (hnx (by omega)) g (by rw [e8, o7]) e9 e10
        rw [e1, ← hdd, deed_frames x.1 x.2 _ a1.1 (by omega)]
end Sm
end Go.Proofs.YtnhebmgibiomnaaGreat
