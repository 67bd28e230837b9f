/- The walk of the law FrameOne. -/
import Derived.Test.YtmlchhfahpcohaaFrameApart
namespace Go.Proofs.Ytmlchhfahpcohaa
open Go.RowKit
set_option linter.unusedSimpArgs false
set_option linter.unusedVariables false

set_option maxHeartbeats 1600000 in
theorem fone (A A' : Option Addr) (c c' : Nat) (l m : List UInt8) (w : World) (h : SlB w w.heap.size (.slice A l.length c) l) (g : SlB w w.heap.size (.slice A' m.length c') m) :
    Calls Try.prog 10 #[.slice A l.length c, .slice A' m.length c'] w fun e w' => e = .returned (.bool true) ∧ Below w.heap.size w w' := by
  by_cases hl : 70000 < l.length ∨ 70000 < m.length
  · clear h g
    generalize l.length = n at *
    generalize m.length = n' at *
    by_cases h1 : 70000 < n
    · clear hl
      go_enter Try.func10, Try.ntmps10
      go_wp2_with fail
      refine (f_awake _).mono ?_
      rintro e w1 ⟨rfl, hb1⟩
      go_wp2_with fail
      refine (f_awake _).mono ?_
      rintro e w2 ⟨rfl, hb2⟩
      go_wp2_with fail
      go_ret
      exact ⟨rfl, hb1.trans (hb2.mono hb1.size)⟩
    · have h2 : 70000 < n' := by omega
      clear hl
      go_enter Try.func10, Try.ntmps10
      go_wp2_with fail
      refine (f_awake _).mono ?_
      rintro e w1 ⟨rfl, hb1⟩
      go_wp2_with fail
      refine (f_awake _).mono ?_
      rintro e w2 ⟨rfl, hb2⟩
      go_wp2_with fail
      go_ret
      exact ⟨rfl, hb1.trans (hb2.mono hb1.size)⟩
  · have hl1 : l.length ≤ 70000 := by omega
    have hl2 : m.length ≤ 70000 := by omega
    by_cases h6 : 60000 < l.length
    · have e : F.wrap l = ([], 3) := by unfold F.wrap; rw [if_pos h6]
      have HX1 : Hid (∀ w' B, SlB w' B (.slice A l.length c) l → B ≤ w'.heap.size → Calls Try.prog 32 #[.slice A l.length c] w' (MadeE w' ([], 3))) := fun w' B h hB => by rw [← e]; exact wrap_s h (by omega) hB
      clear e hl
      generalize l.length = n at *
      generalize m.length = n' at *
      go_enter Try.func10, Try.ntmps10
      go_wp2_with fail
      refine (f_awake _).mono ?_
      rintro e w1 ⟨rfl, b1⟩
      go_wp2_with fail
      refine (HX1.out w1 _ (h.below b1) b1.size).mono ?_
      rintro e w2 ⟨v2, rfl, own2, b2⟩
      obtain ⟨A2, c2, rfl, _, _, _⟩ := ownShape own2
      go_wp2_with fail
      go_ret
      exact ⟨rfl, b1.trans (b2.mono b1.size)⟩
    · obtain ⟨i0, hi, hz0, hz1, hz2⟩ := info_parts info_u8
      have hw := F.wrap_len (b := l) (by omega)
      have he : (F.wrap l).2 = 0 := by unfold F.wrap; rw [if_neg h6]
      obtain ⟨p, hp⟩ : ∃ p, p = F.wrap l := ⟨_, rfl⟩
      have HX1 : Hid (∀ w' B, SlB w' B (.slice A l.length c) l → B ≤ w'.heap.size → Calls Try.prog 32 #[.slice A l.length c] w' (MadeE w' p)) := fun w' B h hB => by rw [hp]; exact wrap_s h (by omega) hB
      have hu := F.unwrap_wrap l m (by omega)
      rw [← hp] at hu hw he
      clear hp
      obtain ⟨p, pe⟩ := p
      simp only at hu hw he
      subst he
      have HX2 : Hid (∀ w' B v, SlB w' B v (p ++ m) → B ≤ w'.heap.size → Calls Try.prog 43 #[v] w' (MadeNE w' (l, 8 + l.length, 0))) := fun w' B v h hB => by rw [← hu]; exact unwrap_s h (by simp; omega) hB
      have HLL := Lib.hid hl1
      have H1 := Lib.hid h
      have H2 := Lib.hid g
      have HC2 := Lib.hid (fun w' (b : Below w.heap.size w w') => (g.below b).parts)
      clear hu hl h g
      obtain ⟨n, hn⟩ : ∃ n, n = l.length := ⟨_, rfl⟩
      obtain ⟨n', hn'⟩ : ∃ n', n' = m.length := ⟨_, rfl⟩
      have HN := Lib.hid hn
      have HN' := Lib.hid hn'
      rw [← hn] at HX1 HX2 H1 hl1 hw h6 ⊢
      rw [← hn'] at H2 hl2 ⊢
      have HW := Lib.hid hw
      have hp8 : p.length ≤ 70008 := by omega
      clear hn hn' hw
      go_enter Try.func10, Try.ntmps10
      go_wp2_with fail
      refine (f_awake _).mono ?_
      rintro e w1 ⟨rfl, b1⟩
      go_wp2_with fail
      refine (HX1.out w1 _ (H1.out.below b1) b1.size).mono ?_
      rintro e w2 ⟨v2, rfl, own2, b2⟩
      have b2' := b1.trans (b2.mono b1.size)
      have own2 : w2.ownsRow w1.heap.size 5 1 v2 (8 + n) (bc p) := by rw [← HW.out]; exact own2
      obtain ⟨A2, c2, rfl, hc2, hA2, hm2⟩ := ownShape own2
      have own2 := ownMore own2 b1.size
      clear b1 b2
      go_wp2_with (at_builtin; refine wpList_append_rd _ rfl _ _ 22 rfl w2.heap.size 5 i0 (.int .u8 0) 1 Try.underlying22 hi hz0 hz1 hz2 rfl _ _ _ rfl (World.ownsRow_nil _ _ _ _) w2.heap.size A2 (8 + n) c2 (bc p) rfl ?d1 (fun h => (hA2 h).2) (Rd.ofOwn own2) (bc_one _) ?c1 ?c2 ?c3 ?_)
      case d1 => rw [bc_len, HW.out]
      case c1 => unfold maxLen; omega
      case c2 => omega
      case c3 => exact Nat.le_refl _
      intro v4 w4 own4 g4
      have own4 : w4.ownsRow w2.heap.size 5 1 v4 (8 + n) (bc p) := by simpa using own4
      have b4 : Below w2.heap.size w2 w4 := (Below.refl _ _).grown g4 (Nat.le_refl _) (by intro k hk; simp [Value.ownBlock] at hk)
      have b4' := b2'.trans (b4.mono b2'.size)
      clear g4 own2
      go_wp2_with (at_builtin; refine wpList_append_rd _ rfl _ _ 22 rfl w2.heap.size 5 i0 (.int .u8 0) 1 Try.underlying22 hi hz0 hz1 hz2 rfl _ _ _ rfl own4 w.heap.size A' n' c' (bc m) rfl ?d1 (HC2.out _ b4').2.2.2.1 (HC2.out _ b4').2.2.2.2 (bc_one _) ?c1 ?c2 ?c3 ?_)
      case d1 => rw [bc_len]; exact HN'.out.symm
      case c1 => unfold maxLen; omega
      case c2 => omega
      case c3 => exact b4.size
      intro v5 w5 own5 g5
      have b5 : Below w2.heap.size w2 w5 := b4.grown g5 b4.size (fun k hk => (own4.lt k hk).1)
      have b5' := b2'.trans (b5.mono b2'.size)
      have s5 : SlB w5 w5.heap.size v5 (p ++ m) := SlB.ofOwn (by rw [bc_app]; exact own5)
      clear g5 own4 own5 b4 b4' b5 b2'
      go_wp2_with fail
      refine (HX2.out w5 _ _ s5 (Nat.le_refl _)).mono ?_
      rintro e w6 ⟨v6, rfl, own6, b6⟩
      have b6' := b5'.trans (b6.mono b5'.size)
      have s6 := SlB.ofOwn own6
      go_wp2_with fail
      refine (same_s s6 (H1.out.below b6') (by have := HLL.out; omega)).mono ?_
      rintro e w8 ⟨rfl, k8, rfl⟩
      go_wp2_with fail
      go_ret
      exact ⟨rfl, belowDrewN b6' _⟩

theorem frameOne_walk (W : World) (v0 v1 : Value) (h0 : Arg W 22 v0) (h1 : Arg W 22 v1) :
    Calls Try.prog 10 #[v0, v1] W fun e W' => e = .returned (.bool true) ∧ Below W.heap.size W W' := by
  obtain ⟨A, c, l, rfl, hc, hm, hA, hr⟩ := h0.bytes Try.underlying22
  obtain ⟨A', c', l', rfl, hc', hm', hA', hr'⟩ := h1.bytes Try.underlying22
  exact fone A A' c c' l l' W ⟨A, c, rfl, hc, hm, hA, hr⟩ ⟨A', c', rfl, hc', hm', hA', hr'⟩
end Go.Proofs.Ytmlchhfahpcohaa
