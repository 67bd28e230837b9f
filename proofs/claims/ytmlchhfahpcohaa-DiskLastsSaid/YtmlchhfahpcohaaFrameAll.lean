/- The walks of layer 3's reader of frames, and of the reference's. Conditions: a slice that comes in is no longer than 2^31 bytes. -/
import Derived.Test.YtmlchhfahpcohaaFrameUnw
namespace Go.Proofs.Ytmlchhfahpcohaa
open Go.RowKit
set_option linter.unusedSimpArgs false
set_option linter.unusedVariables false

theorem info_sl : (Try.prog.info? 22).map (fun i => (i.zero, i.size, i.bytes)) = some (some (.slice none 0 0), 1, 24) := by kernel_rfl

/-- rows of the call's own, one by one -/
def Owns (w : World) (base : Nat) (vs : List Value) (ls : List (List UInt8)) : Prop :=
  vs.length = ls.length ∧ ∀ (i : Nat) (v : Value) (l : List UInt8), vs[i]? = some v → ls[i]? = some l → w.ownsRow base 5 1 v l.length (bc l)
section
variable {w w' : World} {base B : Nat} {vs : List Value} {ls : List (List UInt8)}
theorem Owns.nil : Owns w base [] [] := ⟨rfl, fun i v l h => by simp at h⟩
theorem belowGrown (hb : Below w.heap.size w w') : w.grownBy w' none := ⟨hb.os, hb.tape, hb.output, hb.size, fun k hk _ => hb.block k hk⟩
theorem ownKept {e n : Nat} {v : Value} {xs : List Value} (h : w.ownsRow base e 1 v n xs) (hb : Below w.heap.size w w') : w'.ownsRow base e 1 v n xs :=
  h.kept (belowGrown hb) (by cases hv : v.ownBlock with
    | none => exact .inl rfl
    | some g => exact .inr (by simp))
theorem Owns.kept (h : Owns w base vs ls) (hb : Below w.heap.size w w') : Owns w' base vs ls := ⟨h.1, fun i v l h1 h2 => ownKept (h.2 i v l h1 h2) hb⟩
theorem Owns.grown {u : Value} {n e base' : Nat} {xs : List Value} (h : Owns w base vs ls) (hu : w.ownsRow base' e 1 u n xs) (hne : 5 ≠ e) (hg : w.grownBy w' u.ownBlock) : Owns w' base vs ls :=
  ⟨h.1, fun i v l h1 h2 => (h.2 i v l h1 h2).kept hg (own_ne hu (h.2 i v l h1 h2) hne)⟩
theorem Owns.snoc {v : Value} {l : List UInt8} (h : Owns w base vs ls) (hv : w.ownsRow base 5 1 v l.length (bc l)) : Owns w base (vs ++ [v]) (ls ++ [l]) := by
  refine ⟨by simp [h.1], fun i u m h1 h2 => ?_⟩
  rw [List.getElem?_append] at h1 h2
  rw [h.1] at h1
  split at h1
  · rename_i hi
    rw [if_pos hi] at h2
    exact h.2 i u m h1 h2
  · rename_i hi
    rw [if_neg hi] at h2
    have : i - ls.length = 0 := by
      have := (List.getElem?_eq_some_iff.1 h1).1
      simpa using this
    rw [this] at h1 h2
    simp at h1 h2
    subst h1; subst h2
    exact hv
theorem Owns.alloc (h : Owns w base vs ls) (o : Obj) : Owns (w.alloc o) base vs ls := h.kept ((Below.refl _ _).alloc (Nat.le_refl _) _)
theorem Owns.reads (h : Owns w base vs ls) : SlBs w w.heap.size vs ls := ⟨h.1, fun i v l h1 h2 => SlB.ofOwn (h.2 i v l h1 h2)⟩
end

/-- a row of the call's own, whose elements are rows of bytes of its own; a number -/
def MadeLs (w : World) (p : List (List UInt8) × Nat) (e : Ending) (w' : World) : Prop :=
  ∃ v vs, e = .returned (.tuple #[v, .int .i64 (p.2 : Int)]) ∧ w'.ownsRow w.heap.size 22 1 v p.1.length vs ∧ Owns w' w.heap.size vs p.1 ∧ Below w.heap.size w w'
/-- a row of the call's own, whose elements are slices of bytes that were there; a number -/
def GotLs (w : World) (B : Nat) (p : List (List UInt8) × Nat) (e : Ending) (w' : World) : Prop :=
  ∃ v vs, e = .returned (.tuple #[v, .int .i64 (p.2 : Int)]) ∧ w'.ownsRow w.heap.size 22 1 v p.1.length vs ∧ SlBs w' B vs p.1 ∧ Below w.heap.size w w'

/-- where the bytes go on -/
theorem Rd.from {w : World} {B : Nat} {A : Option Addr} {c : Nat} {l : List UInt8} (hr : Rd w B A (bc l)) (hc : l.length ≤ c) (k : Nat) : (c = k → Rd w B A (bc (l.drop k))) ∧ (¬ c = k → Rd w B (A.map (·.add k)) (bc (l.drop k))) := by
  have := hr.cut (k := k) (cap := c) (by rw [bc_len]; exact hc)
  rw [bc_drop] at this
  exact ⟨fun h => by rwa [if_pos h] at this, fun h => by rwa [if_neg h] at this⟩

theorem F.all_step {l : List UInt8} {a : Nat} {ls : List (List UInt8)} (ha : a ≤ l.length) (h : F.all l = (ls ++ (F.all (l.drop a)).1, a + (F.all (l.drop a)).2)) (h0 : (F.unwrap (l.drop a)).2.2 = 0) :
    F.all l = ((ls ++ [(F.unwrap (l.drop a)).1]) ++ (F.all (l.drop (a + (F.unwrap (l.drop a)).2.1))).1, (a + (F.unwrap (l.drop a)).2.1) + (F.all (l.drop (a + (F.unwrap (l.drop a)).2.1))).2) := by
  rw [h, F.all_ok h0, List.drop_drop]
  simp [Nat.add_assoc]
theorem F.all_end {l : List UInt8} {a : Nat} {ls : List (List UInt8)} (h : F.all l = (ls ++ (F.all (l.drop a)).1, a + (F.all (l.drop a)).2)) (h0 : (F.unwrap (l.drop a)).2.2 ≠ 0) : F.all l = (ls, a) := by
  rw [h, F.all_err h0]; simp
theorem F.err_le (b : List UInt8) : (F.unwrap b).2.2 ≤ 5 := by
  unfold F.unwrap
  split
  · simp
  split
  · simp
  split
  · simp
  split <;> simp

set_option maxHeartbeats 1600000 in
theorem all_any (A : Option Addr) (c : Nat) (l : List UInt8) (w : World) (B : Nat) (hl : l.length ≤ 2147483648) (hc : l.length ≤ c) (hm : c ≤ maxLen) (hA : A = none → l = [] ∧ c = 0) (hr : Rd w B A (bc l)) (hB : B ≤ w.heap.size) :
    Calls Try.prog 45 #[.slice A l.length c] w (MadeLs w (F.all l)) := by
  obtain ⟨i0, hi, hz0, hz1, hz2⟩ := info_parts info_sl
  obtain ⟨n, hn⟩ : ∃ n, n = l.length := ⟨_, rfl⟩
  have HN := Lib.hid hn
  have HF := Lib.hid (fun w' b => hr.belowM (w' := w') b hB)
  obtain ⟨p, hp⟩ : ∃ p, p = F.all l := ⟨_, rfl⟩
  have HP := Lib.hid hp
  have HA := Lib.hid hA
  rw [← hp]
  rw [← hn] at hl hc ⊢
  clear hn hp hA
  have hm' := hm
  unfold maxLen at hm
  go_enter Try.func45, Try.ntmps45
  go_wp2_with fail
  go_loopw [4, 5] (fun v i wr => ∃ (at_ : Nat) (ls : List (List UInt8)) (vs : List Value), at_ ≤ n ∧ i = .int .i64 (at_ : Int) ∧ wr.ownsRow w.heap.size 22 1 v ls.length vs ∧ Owns wr w.heap.size vs ls ∧ 8 * ls.length ≤ at_ ∧ Hid (p = (ls ++ (F.all (l.drop at_)).1, at_ + (F.all (l.drop at_)).2)) ∧ Below w.heap.size w wr) (fun _ i _ => n - (intOf i).toNat)
  case atStart => exact ⟨0, [], [], Nat.zero_le _, rfl, World.ownsRow_nil _ _ _ _, Owns.nil, by simp, by show _ = _; rw [HP.out]; simp, Below.refl _ _⟩
  case round =>
    obtain ⟨at_, ls, vs, hat, rfl, own, hO, hcnt, HS, bel⟩ := hrel
    have hdl : (l.drop at_).length = n - at_ := by rw [List.length_drop, ← HN.out]
    have HDL := Lib.hid hdl
    have HRf := Lib.hid (Rd.from (w := wr) (HF.out wr bel) (by rw [← HN.out]; exact hc) at_)
    have HX : Hid (∀ A' c', l.length - at_ ≤ c' → c' ≤ maxLen → (A' = none → l.drop at_ = [] ∧ c' = 0) → Rd wr B A' (bc (l.drop at_)) → Calls Try.prog 43 #[.slice A' (n - at_) c'] wr (MadeNE wr (F.unwrap (l.drop at_)))) := by
      intro A' c' h1 h2 h3 h4
      have := unwrap_any A' c' (l.drop at_) wr B (by rw [hdl]; omega) (by rw [hdl, HN.out]; exact h1) h2 h3 h4 (Nat.le_trans hB bel.size)
      rwa [hdl] at this
    clear hdl
    by_cases hca : c = at_
    · have hat' : n - at_ ≤ 0 := by omega
      have hnil : l.drop at_ = [] := List.eq_nil_of_length_eq_zero (by rw [HDL.out]; omega)
      have hfin : p = (ls, at_) := by rw [HP.out]; rw [HP.out] at HS; exact F.all_end HS.out (by rw [hnil]; decide)
      have HFIN := Lib.hid hfin
      have HU : Hid (F.unwrap (l.drop at_) = ([], 0, 4)) := by show _ = _; rw [hnil]; rfl
      clear hfin hnil HS
      go_wp2_with fail
      refine (HX.out _ _ (by rw [← HN.out]; exact hat') (Nat.zero_le _) (fun h => ⟨List.eq_nil_of_length_eq_zero (by rw [HDL.out]; omega), rfl⟩) (HRf.out.1 hca)).mono ?_
      rw [HU.out]
      rintro e w1 ⟨bv, rfl, bown, bb⟩
      go_wp2_with fail
      go_ret2
      rw [HFIN.out]
      exact ⟨_, vs, rfl, ownKept own bb, hO.kept bb, bel.trans (bb.mono bel.size)⟩
    · obtain ⟨q, hq⟩ : ∃ q, q = F.unwrap (l.drop at_) := ⟨_, rfl⟩
      have hq3 : q.2.2 ≤ 5 := by rw [hq]; exact F.err_le _
      have hq2 : q.2.2 = 0 → 8 ≤ q.2.1 ∧ at_ + q.2.1 ≤ n := fun h => by
        rw [hq] at h ⊢
        obtain ⟨m, h1, _, h2, _⟩ := F.unwrap_ok h
        have h3 := HDL.out
        rw [h2]
        simp only
        omega
      have HQ := Lib.hid hq
      rw [← hq] at HX
      clear hq
      obtain ⟨q1, q2, q3⟩ := q
      simp only at hq3 hq2
      by_cases h0 : q3 = 0
      · subst h0
        obtain ⟨hq8, hqn⟩ := hq2 rfl
        have HS2 : Hid (p = ((ls ++ [q1]) ++ (F.all (l.drop (at_ + q2))).1, (at_ + q2) + (F.all (l.drop (at_ + q2))).2)) := by
          show _ = _
          have h1 := HP.out ▸ HS.out
          have := F.all_step (by rw [← HN.out]; exact hat) h1 (by rw [← HQ.out])
          rw [← HQ.out] at this
          rw [HP.out]; exact this
        clear HS hq2
        go_wp2_with fail
        refine (HX.out _ _ (by rw [← HN.out]; omega) (by unfold maxLen; omega) (fun h => by
          have h0 : A = none := by simpa using h
          obtain ⟨rfl, rfl⟩ := HA.out h0
          exact ⟨by simp, by omega⟩) (HRf.out.2 hca)).mono ?_
        rintro e w1 ⟨bv, rfl, bown, bb⟩
        have own1 := ownKept own bb
        have hO1 := (hO.kept bb).snoc (ownMore bown bel.size)
        have bel1 := bel.trans (bb.mono bel.size)
        obtain ⟨bA, bc', rfl, _, _, _⟩ := ownShape bown
        clear own hO bel bown
        go_wp2_with (at_builtin; refine wpList_append_own _ rfl _ _ 48 rfl w.heap.size 22 i0 (.slice none 0 0) 1 24 Try.underlying48 hi hz0 hz1 hz2 rfl (by decide) _ _ _ rfl (own1.alloc _) ⟨w1.heap.size, 0, none⟩ 1 1 [.slice bA q1.length bc'] rfl rfl ?c1 ?c2 ?c3 ?c4 ?c5 ?_)
        case c1 => exact oneAt _ _ _
        case c2 => intro u hu; simp at hu; subst hu; rfl
        case c3 => unfold maxLen; omega
        case c4 => omega
        case c5 => have := bel1.size; simp; omega
        intro v' w2 own2 g2 _
        have hO2 : Owns w2 w.heap.size (vs ++ [.slice bA q1.length bc']) (ls ++ [q1]) := (hO1.alloc _).grown (own1.alloc _) (by decide) g2
        have bel2 : Below w.heap.size w w2 := (bel1.alloc bel1.size _).grown g2 (by have := bel1.size; simp; omega) (fun g hg => (own1.lt g hg).1)
        clear own1 hO1 bel1 g2
        go_wp2_with fail
        go_roundw
        case rel => exact ⟨at_ + q2, ls ++ [q1], _, hqn, by go_num, by rw [List.length_append]; exact own2, hO2, by simp; omega, HS2, bel2⟩
        case measure => simp [intOf]; omega
      · have hfin : p = (ls, at_) := by
          rw [HP.out]; rw [HP.out] at HS; exact F.all_end HS.out (by rw [← HQ.out]; exact h0)
        have HFIN := Lib.hid hfin
        have hb1 : ((q3 : Int) != 0) = true := by simp; omega
        clear hfin HS hq2
        go_wp2_with fail
        refine (HX.out _ _ (by rw [← HN.out]; omega) (by unfold maxLen; omega) (fun h => by
          have h0 : A = none := by simpa using h
          obtain ⟨rfl, rfl⟩ := HA.out h0
          exact ⟨by simp, by omega⟩) (HRf.out.2 hca)).mono ?_
        rintro e w1 ⟨bv, rfl, bown, bb⟩
        go_wp2_with fail
        go_ret2
        rw [HFIN.out]
        exact ⟨_, vs, rfl, ownKept own bb, hO.kept bb, bel.trans (bb.mono bel.size)⟩

set_option maxHeartbeats 1600000 in
theorem rall_any (A : Option Addr) (c : Nat) (l : List UInt8) (w : World) (B : Nat) (hl : l.length ≤ 2147483648) (hc : l.length ≤ c) (hm : c ≤ maxLen) (hA : A = none → l = [] ∧ c = 0) (hr : Rd w B A (bc l)) (hB : B ≤ w.heap.size) :
    Calls Try.prog 46 #[.slice A l.length c] w (GotLs w B (F.all l)) := by
  obtain ⟨i0, hi, hz0, hz1, hz2⟩ := info_parts info_sl
  obtain ⟨n, hn⟩ : ∃ n, n = l.length := ⟨_, rfl⟩
  have HN := Lib.hid hn
  have HF := Lib.hid (fun w' b => hr.belowM (w' := w') b hB)
  obtain ⟨p, hp⟩ : ∃ p, p = F.all l := ⟨_, rfl⟩
  have HP := Lib.hid hp
  have HA := Lib.hid hA
  rw [← hp]
  rw [← hn] at hl hc ⊢
  clear hn hp hA
  have hm' := hm
  unfold maxLen at hm
  go_enter Try.func46, Try.ntmps46
  go_wp2_with fail
  go_loopw [4, 5] (fun v i wr => ∃ (at_ : Nat) (ls : List (List UInt8)) (vs : List Value), at_ ≤ n ∧ i = .int .i64 (at_ : Int) ∧ wr.ownsRow w.heap.size 22 1 v ls.length vs ∧ SlBs wr B vs ls ∧ 8 * ls.length ≤ at_ ∧ Hid (p = (ls ++ (F.all (l.drop at_)).1, at_ + (F.all (l.drop at_)).2)) ∧ Below w.heap.size w wr) (fun _ i _ => n - (intOf i).toNat)
  case atStart => exact ⟨0, [], [], Nat.zero_le _, rfl, World.ownsRow_nil _ _ _ _, SlBs.nil, by simp, by show _ = _; rw [HP.out]; simp, Below.refl _ _⟩
  case round =>
    obtain ⟨at_, ls, vs, hat, rfl, own, hO, hcnt, HS, bel⟩ := hrel
    have hdl : (l.drop at_).length = n - at_ := by rw [List.length_drop, ← HN.out]
    have HDL := Lib.hid hdl
    have HRf := Lib.hid (Rd.from (w := wr) (HF.out wr bel) (by rw [← HN.out]; exact hc) at_)
    have HX : Hid (∀ A' c', l.length - at_ ≤ c' → c' ≤ maxLen → (A' = none → l.drop at_ = [] ∧ c' = 0) → Rd wr B A' (bc (l.drop at_)) → Calls Try.prog 44 #[.slice A' (n - at_) c'] wr (GotNE wr B (F.unwrap (l.drop at_)))) := by
      intro A' c' h1 h2 h3 h4
      have := runwrap_any A' c' (l.drop at_) wr B (by rw [hdl]; omega) (by rw [hdl, HN.out]; exact h1) h2 h3 h4 (Nat.le_trans hB bel.size)
      rwa [hdl] at this
    clear hdl
    by_cases hlt : at_ < n
    · have hca : ¬ c = at_ := by omega
      obtain ⟨q, hq⟩ : ∃ q, q = F.unwrap (l.drop at_) := ⟨_, rfl⟩
      have hq3 : q.2.2 ≤ 5 := by rw [hq]; exact F.err_le _
      have hq2 : q.2.2 = 0 → 8 ≤ q.2.1 ∧ at_ + q.2.1 ≤ n := fun h => by
        rw [hq] at h ⊢
        obtain ⟨m, h1, _, h2, _⟩ := F.unwrap_ok h
        have h3 := HDL.out
        rw [h2]
        simp only
        omega
      have HQ := Lib.hid hq
      rw [← hq] at HX
      clear hq
      obtain ⟨q1, q2, q3⟩ := q
      simp only at hq3 hq2
      by_cases h0 : q3 = 0
      · subst h0
        obtain ⟨hq8, hqn⟩ := hq2 rfl
        have HS2 : Hid (p = ((ls ++ [q1]) ++ (F.all (l.drop (at_ + q2))).1, (at_ + q2) + (F.all (l.drop (at_ + q2))).2)) := by
          show _ = _
          have h1 := HP.out ▸ HS.out
          have := F.all_step (by rw [← HN.out]; exact hat) h1 (by rw [← HQ.out])
          rw [← HQ.out] at this
          rw [HP.out]; exact this
        clear HS hq2
        go_wp2_with fail
        refine (HX.out _ _ (by rw [← HN.out]; omega) (by unfold maxLen; omega) (fun h => by
          have h0 : A = none := by simpa using h
          obtain ⟨rfl, rfl⟩ := HA.out h0
          exact ⟨by simp, by omega⟩) (HRf.out.2 hca)).mono ?_
        rintro e w1 ⟨bv, rfl, bown, bb⟩
        have own1 := ownKept own bb
        have hO1 := (hO.belowM bb (Nat.le_trans hB bel.size)).app (SlBs.one bown)
        have bel1 := bel.trans (bb.mono bel.size)
        obtain ⟨bA, bc', rfl, _, _, _⟩ := bown
        clear own hO bel
        go_wp2_with (at_builtin; refine wpList_append_own _ rfl _ _ 48 rfl w.heap.size 22 i0 (.slice none 0 0) 1 24 Try.underlying48 hi hz0 hz1 hz2 rfl (by decide) _ _ _ rfl (own1.alloc _) ⟨w1.heap.size, 0, none⟩ 1 1 [.slice bA q1.length bc'] rfl rfl ?c1 ?c2 ?c3 ?c4 ?c5 ?_)
        case c1 => exact oneAt _ _ _
        case c2 => intro u hu; simp at hu; subst hu; rfl
        case c3 => unfold maxLen; omega
        case c4 => omega
        case c5 => have := bel1.size; simp; omega
        intro v' w2 own2 g2 _
        have b12 : Below w.heap.size w1 w2 := ((Below.refl _ _).alloc bel1.size _).grown g2 (by have := bel1.size; simp; omega) (fun g hg => (own1.lt g hg).1)
        have hO2 : SlBs w2 B (vs ++ [.slice bA q1.length bc']) (ls ++ [q1]) := hO1.belowM b12 hB
        have bel2 : Below w.heap.size w w2 := bel1.trans b12
        clear own1 hO1 bel1 g2 b12
        go_wp2_with fail
        go_roundw
        case rel => exact ⟨at_ + q2, ls ++ [q1], _, hqn, by go_num, by rw [List.length_append]; exact own2, hO2, by simp; omega, HS2, bel2⟩
        case measure => simp [intOf]; omega
      · have hfin : p = (ls, at_) := by
          rw [HP.out]; rw [HP.out] at HS; exact F.all_end HS.out (by rw [← HQ.out]; exact h0)
        have HFIN := Lib.hid hfin
        have hb1 : ((q3 : Int) != 0) = true := by simp; omega
        clear hfin HS hq2
        go_wp2_with fail
        refine (HX.out _ _ (by rw [← HN.out]; omega) (by unfold maxLen; omega) (fun h => by
          have h0 : A = none := by simpa using h
          obtain ⟨rfl, rfl⟩ := HA.out h0
          exact ⟨by simp, by omega⟩) (HRf.out.2 hca)).mono ?_
        rintro e w1 ⟨bv, rfl, bown, bb⟩
        go_wp2_with fail
        go_ret2
        rw [HFIN.out]
        exact ⟨_, vs, rfl, ownKept own bb, hO.belowM bb (Nat.le_trans hB bel.size), bel.trans (bb.mono bel.size)⟩
    · have hnil : l.drop at_ = [] := List.eq_nil_of_length_eq_zero (by rw [HDL.out]; omega)
      have hfin : p = (ls, at_) := by rw [HP.out]; rw [HP.out] at HS; exact F.all_end HS.out (by rw [hnil]; decide)
      have HFIN := Lib.hid hfin
      clear hfin hnil HS
      go_wp2_with fail
      go_ret2
      rw [HFIN.out]
      exact ⟨_, vs, rfl, own, hO, bel⟩

set_option maxHeartbeats 1600000 in
theorem sames_any (A A' : Option Addr) (c c' n : Nat) (vs us : List Value) (ls : List (List UInt8)) (w : World) (b1 b2 b3 b4 : Nat) (hn : n = ls.length) (hl : ∀ l ∈ ls, l.length ≤ 1099511627776) (hm : n ≤ 1099511627776) (hA : Rd w b1 A vs) (hB : Rd w b2 A' us) (hv : SlBs w b3 vs ls) (hu : SlBs w b4 us ls) (hc : n ≤ c) (hd : n ≤ c') :
    Calls Try.prog 47 #[.slice A n c, .slice A' n c'] w fun e w' => e = .returned (.bool true) ∧ ∃ n, w' = w.drewN n := by
  have HN := Lib.hid hn
  clear hn
  go_enter Try.func47, Try.ntmps47
  go_wp2_with fail
  go_loopw [5] (fun i wr => ∃ k m : Nat, k ≤ n ∧ i = .int .i64 k ∧ wr = w.drewN m) (fun i _ => n - (intOf i).toNat)
  case atStart => exact ⟨0, 0, Nat.zero_le _, rfl, rfl⟩
  case round =>
    obtain ⟨k, m, hk, rfl, rfl⟩ := hrel
    by_cases hlt : k < n
    · have k1 : k < ls.length := by rw [← HN.out]; exact hlt
      have k2 : k < vs.length := by rw [hv.1]; exact k1
      have k3 : k < us.length := by rw [hu.1]; exact k1
      obtain ⟨ab, ao, rfl, _, hca⟩ := hA.at_ k2
      obtain ⟨bb, bo, rfl, _, hcb⟩ := hB.at_ k3
      obtain ⟨xA, xc, ex, hx1, hx2, hx3, hx4⟩ := hv.2 k _ _ (List.getElem?_eq_getElem k2) (List.getElem?_eq_getElem k1)
      obtain ⟨yA, yc, ey, hy1, hy2, hy3, hy4⟩ := hu.2 k _ _ (List.getElem?_eq_getElem k3) (List.getElem?_eq_getElem k1)
      rw [ex] at hca
      rw [ey] at hcb
      have hll := hl _ (List.getElem_mem k1)
      generalize ls[k] = l at *
      clear ex ey k1 k2 k3
      have hb0 : (0 : Int) ≤ (k : Int) := by omega
      have hb1 : (k : Int) < (n : Int) := by omega
      have HC : Hid (∀ q, Calls Try.prog 16 #[.slice xA l.length xc, .slice yA l.length yc] (w.drewN (m + q)) fun e w' => e = .returned (.bool true) ∧ ∃ r, w' = w.drewN (m + r)) := fun q =>
        (same_any xA yA xc yc l (w.drewN (m + q)) _ _ hll hx4 hy4 hx1 hy1).mono fun _ _ ⟨he, r, hr⟩ => ⟨he, q + r, by rw [hr, World.drewN_drewN, Nat.add_assoc]⟩
      clear hx3 hy3
      go_wp2_with fail
      go_quiet ((go_at_call 16; exact HC.out _))
      go_wp2_with fail
      go_roundw
      case rel => exact ⟨k + 1, _, by omega, by go_num, rfl⟩
      case measure => simp [intOf]; omega
    · go_wp2_with fail
      go_ret
      exact ⟨rfl, _, rfl⟩
end Go.Proofs.Ytmlchhfahpcohaa
