/- The walk of the law FrameReads. -/
import Derived.Test.YtmlchhfahpcohaaFrameAll
import Derived.Test.YtmlchhfahpcohaaFrameSums
namespace Go.Proofs.Ytmlchhfahpcohaa
open Go.RowKit
set_option linter.unusedSimpArgs false
set_option linter.unusedVariables false

/-! ### the contracts, said of slices that read as bytes -/
section
variable {w : World} {B B1 B2 : Nat} {v u : Value} {l : List UInt8}
theorem wrap_s (h : SlB w B v l) (hl : l.length ≤ 2147483648) (hB : B ≤ w.heap.size) : Calls Try.prog 32 #[v] w (MadeE w (F.wrap l)) := by
  obtain ⟨A, c, rfl, hc, hm, hA, hr⟩ := h
  exact wrap_any A c l w B hl hc hA hr hB
theorem unwrap_s (h : SlB w B v l) (hl : l.length ≤ 2147483648) (hB : B ≤ w.heap.size) : Calls Try.prog 43 #[v] w (MadeNE w (F.unwrap l)) := by
  obtain ⟨A, c, rfl, hc, hm, hA, hr⟩ := h
  exact unwrap_any A c l w B hl hc hm hA hr hB
theorem runwrap_s (h : SlB w B v l) (hl : l.length ≤ 2147483648) (hB : B ≤ w.heap.size) : Calls Try.prog 44 #[v] w (GotNE w B (F.unwrap l)) := by
  obtain ⟨A, c, rfl, hc, hm, hA, hr⟩ := h
  exact runwrap_any A c l w B hl hc hm hA hr hB
theorem all_s (h : SlB w B v l) (hl : l.length ≤ 2147483648) (hB : B ≤ w.heap.size) : Calls Try.prog 45 #[v] w (MadeLs w (F.all l)) := by
  obtain ⟨A, c, rfl, hc, hm, hA, hr⟩ := h
  exact all_any A c l w B hl hc hm hA hr hB
theorem rall_s (h : SlB w B v l) (hl : l.length ≤ 2147483648) (hB : B ≤ w.heap.size) : Calls Try.prog 46 #[v] w (GotLs w B (F.all l)) := by
  obtain ⟨A, c, rfl, hc, hm, hA, hr⟩ := h
  exact rall_any A c l w B hl hc hm hA hr hB
theorem same_s (h : SlB w B1 v l) (g : SlB w B2 u l) (hl : l.length ≤ 1099511627776) : Calls Try.prog 16 #[v, u] w fun e w' => e = .returned (.bool true) ∧ ∃ n, w' = w.drewN n := by
  obtain ⟨A, c, rfl, hc, hm, hA, hr⟩ := h
  obtain ⟨A', c', rfl, hc', hm', hA', hr'⟩ := g
  exact same_any A A' c c' l w _ _ hl hr hr' hc hc'
end
/-- v is a slice of slices that read as these bytes; all lies below block B -/
def SlL (w : World) (B : Nat) (v : Value) (ls : List (List UInt8)) : Prop := ∃ A c vs, v = .slice A ls.length c ∧ ls.length ≤ c ∧ Rd w B A vs ∧ SlBs w B vs ls
section
variable {w w' : World} {B B' B1 B2 : Nat} {v u : Value} {ls : List (List UInt8)}
theorem SlL.keep (h : SlL w B v ls) (hk : ∀ p : Addr, p.block < B → w'.cell? p = w.cell? p) : SlL w' B v ls := by
  obtain ⟨A, c, vs, h1, h2, h3, h4⟩ := h
  exact ⟨A, c, vs, h1, h2, h3.keep hk, h4.keep hk⟩
theorem SlL.belowM (h : SlL w B v ls) (hb : Below B' w w') (hB : B ≤ B') : SlL w' B v ls := h.keep fun _ hp => (hb.mono hB).cell hp
theorem SlL.below (h : SlL w B v ls) (hb : Below B w w') : SlL w' B v ls := h.keep fun _ hp => hb.cell hp
theorem SlL.drewN (h : SlL w B v ls) (n : Nat) : SlL (w.drewN n) B v ls := h
theorem SlL.ofOwn {base n : Nat} {e : TypeId} {vs : List Value} (h : w.ownsRow base e 1 v n vs) (hs : SlBs w B vs ls) (hB : B ≤ w.heap.size) : SlL w w.heap.size v ls := by
  obtain ⟨A, c, rfl, hc, hA, hm⟩ := ownShape h
  have h1 := h.1
  have h2 := hs.1
  have h3 : n = ls.length := by omega
  subst h3
  exact ⟨A, c, vs, rfl, hc, Rd.ofOwn h, hs.more hB⟩
theorem sames_s (h : SlL w B1 v ls) (g : SlL w B2 u ls) (hl : ∀ l ∈ ls, l.length ≤ 1099511627776) (hm : ls.length ≤ 1099511627776) : Calls Try.prog 47 #[v, u] w fun e w' => e = .returned (.bool true) ∧ ∃ n, w' = w.drewN n := by
  obtain ⟨A, c, vs, rfl, hc, hr, hs⟩ := h
  obtain ⟨A', c', us, rfl, hc', hr', hs'⟩ := g
  exact sames_any A A' c c' ls.length vs us ls w _ _ _ _ rfl hl hm hr hr' hs hs' hc hc'
end
theorem SlB.drewN {w : World} {B : Nat} {v : Value} {l : List UInt8} (h : SlB w B v l) (n : Nat) : SlB (w.drewN n) B v l := h
theorem SlBs.drewN {w : World} {B : Nat} {vs : List Value} {ls : List (List UInt8)} (h : SlBs w B vs ls) (n : Nat) : SlBs (w.drewN n) B vs ls := h
theorem F.all_mem (b : List UInt8) : ∀ x ∈ (F.all b).1, x.length ≤ b.length := by
  generalize hk : b.length = k
  induction k using Nat.strongRecOn generalizing b with
  | ind k ih =>
    intro x hx
    by_cases h : (F.unwrap b).2.2 = 0
    · rw [F.all_ok h] at hx
      obtain ⟨n, h1, _, h2, _⟩ := F.unwrap_ok h
      rcases List.mem_cons.1 hx with rfl | hx
      · have := F.unwrap_len b; omega
      · have := ih (b.drop (F.unwrap b).2.1).length (by rw [h2]; simp; omega) _ rfl x hx
        rw [List.length_drop] at this
        omega
    · rw [F.all_err h] at hx
      simp at hx

set_option maxHeartbeats 1600000 in
theorem freads (A : Option Addr) (c : Nat) (l : List UInt8) (w : World) (h : SlB w w.heap.size (.slice A l.length c) l) :
    Calls Try.prog 7 #[.slice A l.length c] w fun e w' => e = .returned (.bool true) ∧ Below w.heap.size w w' := by
  by_cases hl : 70000 < l.length
  · clear h
    generalize l.length = n at *
    go_enter Try.func7, Try.ntmps7
    go_wp2_with fail
    refine (f_awake _).mono ?_
    rintro e w1 ⟨rfl, hb1⟩
    go_wp2_with fail
    refine (f_awake _).mono ?_
    rintro e w2 ⟨rfl, hb2⟩
    go_wp2_with fail
    go_ret
    exact ⟨rfl, hb1.trans (hb2.mono hb1.size)⟩
  · have hl2 : l.length ≤ 2147483648 := by omega
    have hU := F.unwrap_len l
    have hC := F.all_count l
    have hL := F.all_le l
    have hM := F.all_mem l
    obtain ⟨p, hp⟩ : ∃ p, p = F.unwrap l := ⟨_, rfl⟩
    obtain ⟨q, hq⟩ : ∃ q, q = F.all l := ⟨_, rfl⟩
    have HX1 : Hid (∀ w' B, SlB w' B (.slice A l.length c) l → B ≤ w'.heap.size → Calls Try.prog 43 #[.slice A l.length c] w' (MadeNE w' p)) := fun w' B h hB => by rw [hp]; exact unwrap_s h hl2 hB
    have HX2 : Hid (∀ w' B, SlB w' B (.slice A l.length c) l → B ≤ w'.heap.size → Calls Try.prog 44 #[.slice A l.length c] w' (GotNE w' B p)) := fun w' B h hB => by rw [hp]; exact runwrap_s h hl2 hB
    have HX3 : Hid (∀ w' B, SlB w' B (.slice A l.length c) l → B ≤ w'.heap.size → Calls Try.prog 45 #[.slice A l.length c] w' (MadeLs w' q)) := fun w' B h hB => by rw [hq]; exact all_s h hl2 hB
    have HX4 : Hid (∀ w' B, SlB w' B (.slice A l.length c) l → B ≤ w'.heap.size → Calls Try.prog 46 #[.slice A l.length c] w' (GotLs w' B q)) := fun w' B h hB => by rw [hq]; exact rall_s h hl2 hB
    rw [← hp] at hU
    rw [← hq] at hC hL hM
    clear hp hq
    obtain ⟨p1, p2, p3⟩ := p
    obtain ⟨ls, at_⟩ := q
    have HM := Lib.hid hM
    simp only at hU hC hL
    clear hM
    generalize l.length = n at *
    go_enter Try.func7, Try.ntmps7
    go_wp2_with fail
    refine (f_awake _).mono ?_
    rintro e w1 ⟨rfl, b1⟩
    go_wp2_with fail
    refine (HX1.out w1 _ (h.below b1) b1.size).mono ?_
    rintro e w2 ⟨v2, rfl, own2, b2⟩
    have b2' := b1.trans (b2.mono b1.size)
    have s2 := SlB.ofOwn own2
    go_wp2_with fail
    refine (HX2.out w2 _ (h.below b2') b2'.size).mono ?_
    rintro e w3 ⟨v3, rfl, s3, b3⟩
    have b3' := b2'.trans (b3.mono b2'.size)
    have s2 := s2.below b3
    go_wp2_with fail
    refine (HX3.out w3 _ (h.below b3') b3'.size).mono ?_
    rintro e w4 ⟨v4, vs, rfl, own4, O4, b4⟩
    have b4' := b3'.trans (b4.mono b3'.size)
    have s2 := s2.belowM b4 b3.size
    have s3 := s3.belowM b4 b3'.size
    have s4 := SlL.ofOwn own4 O4.reads (Nat.le_refl _)
    clear own4 O4
    go_wp2_with fail
    refine (HX4.out w4 _ (h.below b4') b4'.size).mono ?_
    rintro e w5 ⟨v5, us, rfl, own5, S5, b5⟩
    have b5' := b4'.trans (b5.mono b4'.size)
    have s2 := s2.belowM b5 (Nat.le_trans b3.size b4.size)
    have s3 := s3.belowM b5 b4'.size
    have s4 := s4.below b5
    have s5 := SlL.ofOwn own5 S5 b5'.size
    clear own5 S5
    go_wp2_with fail
    refine (same_s s2 s3 (by omega)).mono ?_
    rintro e w6 ⟨rfl, k6, rfl⟩
    go_wp2_with fail
    refine (sames_s (s4.drewN k6) (s5.drewN k6) (fun x hx => by have := HM.out x hx; omega) (by omega)).mono ?_
    rintro e w7 ⟨rfl, k7, rfl⟩
    go_wp2_with fail
    go_ret
    exact ⟨rfl, belowDrewN b5' _⟩

theorem frameReads_walk (W : World) (v0 : Value) (h0 : Arg W 22 v0) :
    Calls Try.prog 7 #[v0] W fun e W' => e = .returned (.bool true) ∧ Below W.heap.size W W' := by
  obtain ⟨A, c, l, rfl, hc, hm, hA, hr⟩ := h0.bytes Try.underlying22
  exact freads A c l W ⟨A, c, rfl, hc, hm, hA, hr⟩
end Go.Proofs.Ytmlchhfahpcohaa
