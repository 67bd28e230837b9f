/- What acceptors, proposals and votes are to one another: no two commands are chosen in one slot. Plain laws: no program in sight. No condition. -/
import Derived.Test.YtbahooohkigcnaaDoorAccPk
namespace Go.Proofs.YtbahooohkigcnaaDoor
set_option maxRecDepth 20000
open Go.RowKit T
set_option linter.unusedSimpArgs false
set_option linter.unusedVariables false
namespace Px
/-- how many below n -/
def cnt (n : Nat) (f : Nat → Bool) : Nat := (List.range n).countP f
theorem cnt_zero (f : Nat → Bool) : cnt 0 f = 0 := rfl
theorem cnt_succ (n : Nat) (f : Nat → Bool) : cnt (n + 1) f = cnt n f + if f n = true then 1 else 0 := by
  unfold cnt; rw [List.range_succ, List.countP_append]; simp [List.countP_cons]
theorem cnt_mono {n : Nat} {f g : Nat → Bool} (h : ∀ j, j < n → f j = true → g j = true) : cnt n f ≤ cnt n g := by
  induction n with
  | zero => simp [cnt_zero]
  | succ n ih =>
    rw [cnt_succ, cnt_succ]
    have := ih (fun j hj => h j (by omega))
    have h1 := h n (by omega)
    by_cases hf : f n = true
    · rw [if_pos hf, if_pos (h1 hf)]; omega
    · rw [if_neg hf]; split <;> omega
theorem cnt_congr {n : Nat} {f g : Nat → Bool} (h : ∀ j, j < n → f j = g j) : cnt n f = cnt n g :=
  Nat.le_antisymm (cnt_mono fun j hj hf => (h j hj) ▸ hf) (cnt_mono fun j hj hf => (h j hj).symm ▸ hf)
theorem cnt_meet {n : Nat} {f g : Nat → Bool} (h : n < cnt n f + cnt n g) : ∃ j, j < n ∧ f j = true ∧ g j = true := by
  induction n with
  | zero => simp [cnt_zero] at h
  | succ n ih =>
    rw [cnt_succ, cnt_succ] at h
    by_cases hf : f n = true
    · by_cases hg : g n = true
      · exact ⟨n, by omega, hf, hg⟩
      · rw [if_pos hf, if_neg hg] at h
        obtain ⟨j, hj, r⟩ := ih (by omega)
        exact ⟨j, by omega, r⟩
    · rw [if_neg hf] at h
      obtain ⟨j, hj, r⟩ := ih (by split at h <;> omega)
      exact ⟨j, by omega, r⟩
theorem cnt_le (n : Nat) (f : Nat → Bool) : cnt n f ≤ n := by
  induction n with
  | zero => simp [cnt_zero]
  | succ n ih => rw [cnt_succ]; split <;> omega
theorem lt_iff (r1 : Nat) (n1 : Int) (r2 : Nat) (n2 : Int) : B.less r1 n1 r2 n2 = true ↔ r1 < r2 ∨ r1 = r2 ∧ n1 < n2 := by
  simp [B.less]
theorem nlt_iff (r1 : Nat) (n1 : Int) (r2 : Nat) (n2 : Int) : B.less r1 n1 r2 n2 = false ↔ ¬ (r1 < r2 ∨ r1 = r2 ∧ n1 < n2) := by
  rw [← lt_iff]; simp
/-- a proposal -/
structure Pr where
  br : Nat
  bn : Int
  s : Int
  x : Cm
def upd (A : Nat → Ac) (j : Nat) (a : Ac) : Nat → Ac := fun k => if k = j then a else A k
theorem upd_same (A : Nat → Ac) (j : Nat) (a : Ac) : upd A j a j = a := by simp [upd]
theorem upd_ne (A : Nat → Ac) {j k : Nat} (a : Ac) (h : k ≠ j) : upd A j a k = A k := by simp [upd, h]
abbrev Vt := Nat → Int → Int → Nat → Bool
def vote (V : Vt) (br : Nat) (bn s : Int) (j : Nat) : Vt := fun r n t k => V r n t k || decide (r = br ∧ n = bn ∧ t = s ∧ k = j)
/-- nobody can make a majority for q any more -/
def Dead (n : Nat) (A : Nat → Ac) (V : Vt) (q : Pr) : Prop := n < 2 * cnt n (fun j => !V q.br q.bn q.s j && (B.less q.br q.bn (A j).pr (A j).pn || decide (q.s < (A j).sl)))
structure Inv (n : Nat) (A : Nat → Ac) (P : List Pr) (V : Vt) : Prop where
  fm : ∀ j, j < n → (A j).formed = true
  hs : ∀ j, j < n → (A j).ha = true → ∃ p ∈ P, p.br = (A j).vr ∧ p.bn = (A j).vn ∧ p.s = (A j).sl ∧ p.x = (A j).c ∧ V p.br p.bn p.s j = true
  vt : ∀ p ∈ P, ∀ j, j < n → V p.br p.bn p.s j = true → p.s < (A j).sl ∨ (p.s = (A j).sl ∧ (A j).ha = true ∧ B.less (A j).vr (A j).vn p.br p.bn = false)
  un : ∀ p ∈ P, ∀ q ∈ P, p.br = q.br → p.bn = q.bn → p.s = q.s → p = q
  mj : ∀ p ∈ P, n < 2 * cnt n (fun j => !B.less (A j).pr (A j).pn p.br p.bn)
  sf : ∀ p ∈ P, ∀ q ∈ P, p.s = q.s → B.less q.br q.bn p.br p.bn = true → q.x = p.x ∨ Dead n A V q
  vp : ∀ r m s j, V r m s j = true → ∃ p ∈ P, p.br = r ∧ p.bn = m ∧ p.s = s
/-- has a majority voted for it? -/
def Chosen (n : Nat) (V : Vt) (p : Pr) : Prop := n < 2 * cnt n (V p.br p.bn p.s)
theorem not_dead {n : Nat} {A : Nat → Ac} {V : Vt} {q : Pr} (hc : Chosen n V q) (hd : Dead n A V q) : False := by
  unfold Chosen at hc; unfold Dead at hd
  obtain ⟨j, hj, h1, h2⟩ := cnt_meet (n := n) (f := V q.br q.bn q.s) (g := fun j => !V q.br q.bn q.s j && (B.less q.br q.bn (A j).pr (A j).pn || decide (q.s < (A j).sl))) (by omega)
  simp [h1] at h2
/-- what is chosen in one slot is one command -/
theorem chosen_one {n : Nat} {A : Nat → Ac} {P : List Pr} {V : Vt} (h : Inv n A P V) {p q : Pr} (hp : p ∈ P) (hq : q ∈ P) (hs : p.s = q.s) (cp : Chosen n V p) (cq : Chosen n V q) : p.x = q.x := by
  cases h1 : B.less q.br q.bn p.br p.bn with
  | true =>
    rcases h.sf p hp q hq hs h1 with e | d
    · exact e.symm
    · exact (not_dead cq d).elim
  | false =>
    cases h2 : B.less p.br p.bn q.br q.bn with
    | true =>
      rcases h.sf q hq p hp hs.symm h2 with e | d
      · exact e
      · exact (not_dead cp d).elim
    | false =>
      rw [nlt_iff] at h1 h2
      have e1 : p.br = q.br := by omega
      have e2 : p.bn = q.bn := by omega
      rw [h.un p hp q hq e1 e2 hs]
/-- a step of one acceptor that takes nothing back -/
structure Up (a a' : Ac) : Prop where
  fm : a'.formed = true
  pr : B.less a'.pr a'.pn a.pr a.pn = false
  sl : a.sl ≤ a'.sl
theorem Dead.up {n : Nat} {A : Nat → Ac} {V : Vt} {q : Pr} (hd : Dead n A V q) (j : Nat) {a : Ac} (hu : Up (A j) a) : Dead n (upd A j a) V q := by
  unfold Dead at hd ⊢
  refine Nat.lt_of_lt_of_le hd (Nat.mul_le_mul_left 2 (cnt_mono fun k hk h => ?_))
  by_cases e : k = j
  · subst e
    rw [upd_same]
    have h1 := hu.pr; have h2 := hu.sl
    rw [Bool.and_eq_true, Bool.or_eq_true, decide_eq_true_eq, lt_iff] at h ⊢
    rw [nlt_iff] at h1
    refine ⟨h.1, ?_⟩
    have := h.2
    omega
  · rw [upd_ne A a e]; exact h
theorem Inv.mjUp {n : Nat} {A : Nat → Ac} {P : List Pr} {V : Vt} (h : Inv n A P V) (j : Nat) {a : Ac} (hu : Up (A j) a) : ∀ p ∈ P, n < 2 * cnt n (fun k => !B.less (upd A j a k).pr (upd A j a k).pn p.br p.bn) := fun p hp => by
  refine Nat.lt_of_lt_of_le (h.mj p hp) (Nat.mul_le_mul_left 2 (cnt_mono fun k hk h => ?_))
  by_cases e : k = j
  · subst e
    rw [upd_same]
    have h1 := hu.pr
    rw [Bool.not_eq_true', nlt_iff] at h ⊢
    rw [nlt_iff] at h1
    omega
  · rw [upd_ne A a e]; exact h
theorem up_prep {a : Ac} (h : a.formed = true) (br : Nat) (bn : Int) : Up a (a.prep br bn) := ⟨Ac.prep_formed h br bn, (Ac.prep_keeps a br bn).1, (Ac.prep_keeps a br bn).2⟩
theorem up_vote {a : Ac} (h : a.formed = true) (br : Nat) (bn s : Int) (x : Cm) : Up a (a.vote br bn s x) := ⟨Ac.vote_formed h br bn s x, (Ac.vote_keeps a br bn s x).1, (Ac.vote_keeps a br bn s x).2⟩
theorem up_learn {a : Ac} (h : a.formed = true) (s : Int) : Up a (a.learn s) := ⟨Ac.learn_formed h s, (Ac.learn_keeps a s).1, (Ac.learn_keeps a s).2⟩
theorem prep_same (a : Ac) (br : Nat) (bn : Int) : (a.prep br bn).sl = a.sl ∧ (a.prep br bn).ha = a.ha ∧ (a.prep br bn).vr = a.vr ∧ (a.prep br bn).vn = a.vn ∧ (a.prep br bn).c = a.c := by
  unfold Ac.prep; cases a.may br bn <;> exact ⟨rfl, rfl, rfl, rfl, rfl⟩
theorem Inv.prep {n : Nat} {A : Nat → Ac} {P : List Pr} {V : Vt} (h : Inv n A P V) {j : Nat} (hj : j < n) (br : Nat) (bn : Int) : Inv n (upd A j ((A j).prep br bn)) P V := by
  have hu := up_prep (h.fm j hj) br bn
  obtain ⟨e1, e2, e3, e4, e5⟩ := prep_same (A j) br bn
  refine ⟨fun k hk => ?_, fun k hk hh => ?_, fun p hp k hk hv => ?_, h.un, h.mjUp j hu, fun p hp q hq hs hl => (h.sf p hp q hq hs hl).imp id (fun d => d.up j hu), h.vp⟩
  · by_cases e : k = j
    · subst e; rw [upd_same]; exact hu.fm
    · rw [upd_ne A _ e]; exact h.fm k hk
  · by_cases e : k = j
    · subst e
      rw [upd_same] at hh ⊢
      rw [e1, e3, e4, e5]
      exact h.hs k hk (e2 ▸ hh)
    · rw [upd_ne A _ e] at hh ⊢; exact h.hs k hk hh
  · by_cases e : k = j
    · subst e
      rw [upd_same, e1, e2, e3, e4]
      exact h.vt p hp k hk hv
    · rw [upd_ne A _ e]; exact h.vt p hp k hk hv
theorem learn_eq {a : Ac} {s : Int} (h : a.learns s = true) : a.learn s = ⟨a.pr, a.pn, s + 1, false, 0, 0, Cm.zero⟩ := by unfold Ac.learn; rw [h]; rfl
theorem Inv.learn {n : Nat} {A : Nat → Ac} {P : List Pr} {V : Vt} (h : Inv n A P V) {j : Nat} (hj : j < n) (s : Int) : Inv n (upd A j ((A j).learn s)) P V := by
  have hu := up_learn (h.fm j hj) s
  cases hl : (A j).learns s with
  | false =>
    have e0 : (A j).learn s = A j := by unfold Ac.learn; rw [hl]; rfl
    have e1 : upd A j ((A j).learn s) = A := funext fun k => by
      by_cases e : k = j
      · subst e; rw [upd_same, e0]
      · rw [upd_ne A _ e]
    rw [e1]; exact h
  | true =>
    have el := learn_eq hl
    have hsl := ((Ac.learns_iff _ s).1 hl).2.1
    refine ⟨fun k hk => ?_, fun k hk hh => ?_, fun p hp k hk hv => ?_, h.un, h.mjUp j hu, fun p hp q hq hs hl => (h.sf p hp q hq hs hl).imp id (fun d => d.up j hu), h.vp⟩
    · by_cases e : k = j
      · subst e; rw [upd_same]; exact hu.fm
      · rw [upd_ne A _ e]; exact h.fm k hk
    · by_cases e : k = j
      · subst e
        rw [upd_same, el] at hh
        exact absurd hh (by simp)
      · rw [upd_ne A _ e] at hh ⊢; exact h.hs k hk hh
    · by_cases e : k = j
      · subst e
        rw [upd_same, el]
        left
        show p.s < s + 1
        have := h.vt p hp k hk hv
        omega
      · rw [upd_ne A _ e]; exact h.vt p hp k hk hv
theorem vote_eq {a : Ac} {br : Nat} {bn s : Int} {x : Cm} (h : a.how br bn s x = 3) : a.vote br bn s x = ⟨br, bn, s, true, br, bn, x⟩ := by unfold Ac.vote; rw [decide_eq_true h]; rfl
theorem vote_no {a : Ac} {br : Nat} {bn s : Int} {x : Cm} (h : a.how br bn s x ≠ 3) : a.vote br bn s x = a := by unfold Ac.vote; rw [decide_eq_false h]; rfl
theorem upd_self (A : Nat → Ac) (j : Nat) : upd A j (A j) = A := funext fun k => by
  by_cases e : k = j
  · subst e; rw [upd_same]
  · rw [upd_ne A _ e]
theorem vote_same (V : Vt) (br : Nat) (bn s : Int) (j : Nat) : vote V br bn s j br bn s j = true := by simp [vote]
theorem vote_old {V : Vt} {br : Nat} {bn s : Int} {j : Nat} {r : Nat} {m t : Int} {k : Nat} (h : V r m t k = true) : vote V br bn s j r m t k = true := by simp [vote, h]
theorem vote_of {V : Vt} {br : Nat} {bn s : Int} {j : Nat} {r : Nat} {m t : Int} {k : Nat} (h : vote V br bn s j r m t k = true) : V r m t k = true ∨ (r = br ∧ m = bn ∧ t = s ∧ k = j) := by
  simpa [vote] using h
theorem Inv.vote {n : Nat} {A : Nat → Ac} {P : List Pr} {V : Vt} (h : Inv n A P V) {j : Nat} (hj : j < n) {p : Pr} (hp : p ∈ P) (hw : (A j).how p.br p.bn p.s p.x = 3) :
    Inv n (upd A j ((A j).vote p.br p.bn p.s p.x)) P (vote V p.br p.bn p.s j) := by
  have hu := up_vote (h.fm j hj) p.br p.bn p.s p.x
  have ev := vote_eq hw
  obtain ⟨hmay, hxf, hsl⟩ := Ac.how_three hw
  obtain ⟨haf, hbf, hpl⟩ := (Ac.may_iff _ _ _).1 hmay
  refine ⟨fun k hk => ?_, fun k hk hh => ?_, fun q hq k hk hv => ?_, h.un, h.mjUp j hu, fun p' hp' q hq hs hl => ?_, fun r m s k hv => ?_⟩
  · by_cases e : k = j
    · subst e; rw [upd_same]; exact hu.fm
    · rw [upd_ne A _ e]; exact h.fm k hk
  · by_cases e : k = j
    · subst e
      rw [upd_same, ev]
      exact ⟨p, hp, rfl, rfl, rfl, rfl, vote_same _ _ _ _ _⟩
    · rw [upd_ne A _ e] at hh ⊢
      obtain ⟨q, hq, r1, r2, r3, r4, r5⟩ := h.hs k hk hh
      exact ⟨q, hq, r1, r2, r3, r4, vote_old r5⟩
  · by_cases e : k = j
    · subst e
      rw [upd_same, ev]
      rcases vote_of hv with hv | ⟨e1, e2, e3, _⟩
      · rcases h.vt q hq k hk hv with h1 | ⟨h1, h2, h3⟩
        · left; show q.s < p.s; omega
        · right
          refine ⟨?_, rfl, ?_⟩
          · show q.s = p.s; omega
          · have h4 := Ac.formed_vote haf h2
            show B.less p.br p.bn q.br q.bn = false
            rw [nlt_iff] at h3 h4 hpl ⊢
            omega
      · right
        refine ⟨e3, rfl, ?_⟩
        show B.less p.br p.bn q.br q.bn = false
        rw [e1, e2]; exact B.less_self _ _
    · rw [upd_ne A _ e]
      rcases vote_of hv with hv | ⟨_, _, _, e4⟩
      · exact h.vt q hq k hk hv
      · exact absurd e4 e
  · refine (h.sf p' hp' q hq hs hl).imp id (fun d => ?_)
    have d := d.up j hu
    unfold Dead at d ⊢
    refine Nat.lt_of_lt_of_le d (Nat.mul_le_mul_left 2 (cnt_mono fun k hk hh => ?_))
    rw [Bool.and_eq_true, Bool.not_eq_true'] at hh ⊢
    refine ⟨?_, hh.2⟩
    cases hc : Px.vote V p.br p.bn p.s j q.br q.bn q.s k with
    | false => rfl
    | true =>
      rcases vote_of hc with hv | ⟨e1, e2, e3, e4⟩
      · rw [hh.1] at hv; exact absurd hv (by simp)
      · subst e4
        have h2 := hh.2
        rw [upd_same, ev, e1, e2, e3] at h2
        simp [B.less_self] at h2
  · rcases vote_of hv with hv | ⟨e1, e2, e3, _⟩
    · exact h.vp r m s k hv
    · exact ⟨p, hp, e1.symm, e2.symm, e3.symm⟩
/-- what j told the ballot (br, bn) when it promised: S -/
structure Ev (A : Nat → Ac) (P : List Pr) (V : Vt) (br : Nat) (bn : Int) (j : Nat) (S : Ac) : Prop where
  pr : B.less (A j).pr (A j).pn br bn = false
  nv : ∀ q ∈ P, B.less q.br q.bn br bn = true → V q.br q.bn q.s j = true → q.s < S.sl ∨ (q.s = S.sl ∧ S.ha = true ∧ B.less S.vr S.vn q.br q.bn = false)
  hs : S.ha = true → ∃ p ∈ P, p.br = S.vr ∧ p.bn = S.vn ∧ p.s = S.sl ∧ p.x = S.c
theorem Ev.made {n : Nat} {A : Nat → Ac} {P : List Pr} {V : Vt} (h : Inv n A P V) {j : Nat} (hj : j < n) {br : Nat} {bn : Int} (hm : (A j).may br bn = true) :
    Ev (upd A j ((A j).prep br bn)) P V br bn j ((A j).prep br bn) := by
  obtain ⟨e1, e2, e3, e4, e5⟩ := prep_same (A j) br bn
  refine ⟨?_, fun q hq hl hv => ?_, fun hh => ?_⟩
  · rw [upd_same]
    unfold Ac.prep; rw [hm]; exact B.less_self _ _
  · rw [e1, e2, e3, e4]; exact h.vt q hq j hj hv
  · rw [e2] at hh
    obtain ⟨p, hp, r1, r2, r3, r4, _⟩ := h.hs j hj hh
    rw [e1, e3, e4, e5]
    exact ⟨p, hp, r1, r2, r3, r4⟩
theorem Ev.up {A : Nat → Ac} {P : List Pr} {V : Vt} {br : Nat} {bn : Int} {j : Nat} {S : Ac} (h : Ev A P V br bn j S) (k : Nat) {a : Ac} (hu : Up (A k) a) : Ev (upd A k a) P V br bn j S := by
  refine ⟨?_, h.nv, h.hs⟩
  by_cases e : j = k
  · subst e
    rw [upd_same]
    have h1 := h.pr; have h2 := hu.pr
    rw [nlt_iff] at h1 h2 ⊢
    omega
  · rw [upd_ne A _ e]; exact h.pr
theorem Ev.vote {A : Nat → Ac} {P : List Pr} {V : Vt} {br : Nat} {bn : Int} {j : Nat} {S : Ac} (h : Ev A P V br bn j S) {k : Nat} {p : Pr} (hw : (A k).how p.br p.bn p.s p.x = 3) (hf : (A k).formed = true) :
    Ev (upd A k ((A k).vote p.br p.bn p.s p.x)) P (vote V p.br p.bn p.s k) br bn j S := by
  have hu := up_vote hf p.br p.bn p.s p.x
  refine ⟨(h.up k hu).pr, fun q hq hl hv => ?_, h.hs⟩
  rcases vote_of hv with hv | ⟨e1, e2, e3, e4⟩
  · exact h.nv q hq hl hv
  · subst e4
    have h1 := h.pr
    have h2 := ((Ac.may_iff _ _ _).1 (Ac.how_three hw).1).2.2
    rw [nlt_iff] at h1 h2
    rw [lt_iff, e1, e2] at hl
    omega
theorem Ev.new {A : Nat → Ac} {P : List Pr} {V : Vt} {br : Nat} {bn : Int} {j : Nat} {S : Ac} (h : Ev A P V br bn j S) {p : Pr} (hn : ∀ k, V p.br p.bn p.s k = false) : Ev A (P ++ [p]) V br bn j S := by
  refine ⟨h.pr, fun q hq hl hv => ?_, fun hh => ?_⟩
  · rcases List.mem_append.1 hq with hq | hq
    · exact h.nv q hq hl hv
    · rw [List.mem_singleton.1 hq, hn] at hv; exact absurd hv (by simp)
  · obtain ⟨p, hp, r⟩ := h.hs hh
    exact ⟨p, List.mem_append_left _ hp, r⟩
/-- what is best of all that are in one slot -/
theorem fold_spec (u : Int) (l : List Ac) : ∀ o : Ac, (o.ha = true → o.sl = u) →
    (l.foldl (fun o a => bif takes u o a then a else o) o = o ∨ l.foldl (fun o a => bif takes u o a then a else o) o ∈ l) ∧
    ((l.foldl (fun o a => bif takes u o a then a else o) o).ha = true → (l.foldl (fun o a => bif takes u o a then a else o) o).sl = u) ∧
    (o.ha = true → (l.foldl (fun o a => bif takes u o a then a else o) o).ha = true ∧ B.less (l.foldl (fun o a => bif takes u o a then a else o) o).vr (l.foldl (fun o a => bif takes u o a then a else o) o).vn o.vr o.vn = false) ∧
    ∀ a ∈ l, a.sl = u → a.ha = true → (l.foldl (fun o a => bif takes u o a then a else o) o).ha = true ∧ B.less (l.foldl (fun o a => bif takes u o a then a else o) o).vr (l.foldl (fun o a => bif takes u o a then a else o) o).vn a.vr a.vn = false := by
  induction l with
  | nil => exact fun o ho => ⟨.inl rfl, ho, fun h => ⟨h, B.less_self _ _⟩, by simp⟩
  | cons b t ih =>
    intro o ho
    rw [List.foldl_cons]
    cases ht : takes u o b with
    | true =>
      rw [cond_true]
      have ht' := ht
      unfold takes at ht'
      rw [Bool.and_eq_true, Bool.and_eq_true, decide_eq_true_eq, Bool.or_eq_true, Bool.not_eq_true'] at ht'
      obtain ⟨⟨t1, t2⟩, t3⟩ := ht'
      obtain ⟨i1, i2, i3, i4⟩ := ih b (fun _ => t1)
      refine ⟨?_, i2, fun h => ⟨(i3 t2).1, ?_⟩, fun a ha hs hh => ?_⟩
      · right
        rcases i1 with i1 | i1
        · rw [i1]; exact List.mem_cons_self
        · exact List.mem_cons_of_mem _ i1
      · have j := (i3 t2).2
        rcases t3 with t3 | t3
        · rw [t3] at h; exact absurd h (by simp)
        · unfold Ac.bless at t3
          rw [nlt_iff] at j ⊢
          rw [lt_iff] at t3
          omega
      · rcases List.mem_cons.1 ha with e | e
        · rw [e]; exact i3 t2
        · exact i4 a e hs hh
    | false =>
      rw [cond_false]
      obtain ⟨i1, i2, i3, i4⟩ := ih o ho
      refine ⟨?_, i2, i3, fun a ha hs hh => ?_⟩
      · rcases i1 with i1 | i1
        · exact .inl i1
        · exact .inr (List.mem_cons_of_mem _ i1)
      · rcases List.mem_cons.1 ha with e | e
        · subst e
          unfold takes at ht
          rw [decide_eq_true hs, hh, Bool.true_and, Bool.true_and] at ht
          rw [Bool.or_eq_false_iff, Bool.not_eq_false'] at ht
          obtain ⟨t1, t2⟩ := ht
          obtain ⟨k1, k2⟩ := i3 t1
          refine ⟨k1, ?_⟩
          unfold Ac.bless at t2
          rw [nlt_iff] at k2 t2 ⊢
          omega
        · exact i4 a e hs hh
theorem best_spec (u : Int) (l : List Ac) : ((best u l).ha = true → best u l ∈ l ∧ (best u l).sl = u) ∧ ∀ a ∈ l, a.sl = u → a.ha = true → (best u l).ha = true ∧ B.less (best u l).vr (best u l).vn a.vr a.vn = false := by
  obtain ⟨i1, i2, i3, i4⟩ := fold_spec u l Ac.zero (fun h => absurd h (by simp [Ac.zero]))
  refine ⟨fun h => ⟨?_, i2 h⟩, i4⟩
  rcases i1 with i1 | i1
  · unfold best at h
    rw [i1] at h
    exact absurd h (by simp [Ac.zero])
  · exact i1
/-- a new proposal: whoever was asked told S; those of the slot itself lie in L; the command is what is best of them, if there is one -/
theorem Inv.new {n : Nat} {A : Nat → Ac} {P : List Pr} {V : Vt} (h : Inv n A P V) (p : Pr) (f : Nat → Bool) (L : List Ac) (hmaj : n < 2 * cnt n f)
    (hf : ∀ j, j < n → f j = true → ∃ S, Ev A P V p.br p.bn j S ∧ S.sl ≤ p.s ∧ (S.sl = p.s → S ∈ L))
    (hL : ∀ S ∈ L, S.ha = true → ∃ p ∈ P, p.br = S.vr ∧ p.bn = S.vn ∧ p.s = S.sl ∧ p.x = S.c)
    (hx : (best p.s L).ha = true → p.x = (best p.s L).c)
    (hn : ∀ q ∈ P, ¬ (q.br = p.br ∧ q.bn = p.bn ∧ q.s = p.s)) : Inv n A (P ++ [p]) V := by
  have hV : ∀ k, V p.br p.bn p.s k = false := fun k => by
    cases hv : V p.br p.bn p.s k with
    | false => rfl
    | true =>
      obtain ⟨q, hq, r1, r2, r3⟩ := h.vp _ _ _ _ hv
      exact absurd ⟨r1, r2, r3⟩ (hn q hq)
  have hpm : n < 2 * cnt n (fun j => !B.less (A j).pr (A j).pn p.br p.bn) := by
    refine Nat.lt_of_lt_of_le hmaj (Nat.mul_le_mul_left 2 (cnt_mono fun j hj hh => ?_))
    obtain ⟨S, hS, _⟩ := hf j hj hh
    rw [hS.pr]; rfl
  refine ⟨h.fm, fun j hj hh => ?_, fun q hq j hj hv => ?_, fun q hq r hr e1 e2 e3 => ?_, fun q hq => ?_, fun q hq r hr hs hl => ?_, fun r m s j hv => ?_⟩
  · obtain ⟨q, hq, r⟩ := h.hs j hj hh
    exact ⟨q, List.mem_append_left _ hq, r⟩
  · rcases List.mem_append.1 hq with hq | hq
    · exact h.vt q hq j hj hv
    · rw [List.mem_singleton.1 hq, hV] at hv; exact absurd hv (by simp)
  · rcases List.mem_append.1 hq with hq | hq <;> rcases List.mem_append.1 hr with hr | hr
    · exact h.un q hq r hr e1 e2 e3
    · rw [List.mem_singleton.1 hr] at e1 e2 e3
      exact absurd ⟨e1, e2, e3⟩ (hn q hq)
    · rw [List.mem_singleton.1 hq] at e1 e2 e3
      exact absurd ⟨e1.symm, e2.symm, e3.symm⟩ (hn r hr)
    · rw [List.mem_singleton.1 hq, List.mem_singleton.1 hr]
  · rcases List.mem_append.1 hq with hq | hq
    · exact h.mj q hq
    · rw [List.mem_singleton.1 hq]; exact hpm
  · rcases List.mem_append.1 hq with hq1 | hq1 <;> rcases List.mem_append.1 hr with hr1 | hr1
    · exact h.sf q hq1 r hr1 hs hl
    · -- the new one is below an old one
      right
      rw [List.mem_singleton.1 hr1] at hl ⊢
      unfold Dead
      refine Nat.lt_of_lt_of_le (h.mj q hq1) (Nat.mul_le_mul_left 2 (cnt_mono fun j hj hh => ?_))
      rw [Bool.not_eq_true', nlt_iff] at hh
      rw [lt_iff] at hl
      rw [hV j, Bool.and_eq_true, Bool.or_eq_true, lt_iff]
      exact ⟨rfl, .inl (by omega)⟩
    · -- an old one is below the new one
      have ep := List.mem_singleton.1 hq1
      subst ep
      -- whoever of those asked has voted for r: its vote is among L
      have key : ∀ j, j < n → f j = true → V r.br r.bn r.s j = true → (best q.s L).ha = true ∧ B.less (best q.s L).vr (best q.s L).vn r.br r.bn = false := fun j hj hh hv => by
        obtain ⟨S, hS, hS1, hS2⟩ := hf j hj hh
        rcases hS.nv r hr1 hl hv with h1 | ⟨h1, h2, h3⟩
        · omega
        · have hSL := hS2 (by omega)
          obtain ⟨k1, k2⟩ := (best_spec q.s L).2 S hSL (by omega) h2
          refine ⟨k1, ?_⟩
          rw [nlt_iff] at h3 k2 ⊢
          omega
      have dead : (∀ j, j < n → f j = true → V r.br r.bn r.s j = false) → Dead n A V r := fun hno => by
        unfold Dead
        refine Nat.lt_of_lt_of_le hmaj (Nat.mul_le_mul_left 2 (cnt_mono fun j hj hh => ?_))
        obtain ⟨S, hS, _⟩ := hf j hj hh
        have h1 := hS.pr
        rw [nlt_iff] at h1
        rw [lt_iff] at hl
        rw [hno j hj hh, Bool.and_eq_true, Bool.or_eq_true, lt_iff]
        exact ⟨rfl, .inl (by omega)⟩
      cases hb : (best q.s L).ha with
      | false =>
        right
        refine dead fun j hj hh => ?_
        cases hv : V r.br r.bn r.s j with
        | false => rfl
        | true => have := (key j hj hh hv).1; rw [hb] at this; exact absurd this (by simp)
      | true =>
        obtain ⟨b1, b2⟩ := (best_spec q.s L).1 hb
        obtain ⟨m, hm, m1, m2, m3, m4⟩ := hL _ b1 hb
        have hxm : m.x = q.x := by rw [m4, hx hb]
        cases hlt : B.less r.br r.bn m.br m.bn with
        | true =>
          rcases h.sf m hm r hr1 (by omega) hlt with e | d
          · left; rw [e, hxm]
          · exact .inr d
        | false =>
          by_cases he : r.br = m.br ∧ r.bn = m.bn
          · left; rw [h.un r hr1 m hm he.1 he.2 (by omega), hxm]
          · right
            refine dead fun j hj hh => ?_
            cases hv : V r.br r.bn r.s j with
            | false => rfl
            | true =>
              have k2 := (key j hj hh hv).2
              rw [nlt_iff, ← m1, ← m2] at k2
              rw [nlt_iff] at hlt
              omega
    · rw [List.mem_singleton.1 hq1, List.mem_singleton.1 hr1] at hl
      rw [B.less_self] at hl; exact absurd hl (by simp)
  · obtain ⟨q, hq, r⟩ := h.vp r m s j hv
    exact ⟨q, List.mem_append_left _ hq, r⟩
/-- at first -/
theorem Inv.first (n : Nat) : Inv n (fun _ => Ac.new) [] (fun _ _ _ _ => false) :=
  ⟨fun _ _ => Ac.new_formed, fun _ _ h => absurd h (by simp [Ac.new]), by simp, by simp, by simp, by simp, by simp⟩
end Px
end Go.Proofs.YtbahooohkigcnaaDoor
