/- The walk of the law BallotOrder. -/
import Derived.Test.YtfpblaggnehnoaaBallotMost
namespace Go.Proofs.Ytfpblaggnehnoaa
open Go.RowKit
set_option linter.unusedSimpArgs false
set_option linter.unusedVariables false

theorem cellAl {w : World} {b o : Nat} (x : Obj) (h : b < w.heap.size) : (w.alloc x).cell? ⟨b, o, none⟩ = w.cell? ⟨b, o, none⟩ := World.cell?_alloc_lt w x _ h

theorem cellN (w : World) {g : Nat} (cs : Array Value) {t : TypeId} (h : g = w.heap.size) (i : Nat) (v : Value) (hv : cs[i]? = some v) : (w.alloc (.cells cs t)).cell? ⟨g, i, none⟩ = some v := by
  subst h
  rw [← hv]
  exact cellAt' (heap_alloc_new w _) i
theorem bals3 (v : World) (ra : Nat) (na : Int) (rb : Nat) (nb : Int) (rc : Nat) (nc : Int) : BalsAt (v.alloc (.cells #[.int .u32 (ra : Int), .int .i64 na, .int .u32 (rb : Int), .int .i64 nb, .int .u32 (rc : Int), .int .i64 nc] 27)) (v.heap.size + 1) (some ⟨v.heap.size, 0, none⟩) [(ra, na), (rb, nb), (rc, nc)] := by
  intro i f hf
  match i, hf with
  | 0, hf => simp at hf; subst hf; exact ⟨_, _, rfl, by omega, cellN v _ rfl _ _ rfl, cellN v _ rfl _ _ rfl⟩
  | 1, hf => simp at hf; subst hf; exact ⟨_, _, rfl, by omega, cellN v _ rfl _ _ rfl, cellN v _ rfl _ _ rfl⟩
  | 2, hf => simp at hf; subst hf; exact ⟨_, _, rfl, by omega, cellN v _ rfl _ _ rfl, cellN v _ rfl _ _ rfl⟩
  | n + 3, hf => simp at hf
theorem B.less_no (ra : Nat) (na : Int) (rb : Nat) (nb : Int) : B.less ra na rb nb = false ↔ ¬ (ra < rb ∨ ra = rb ∧ na < nb) := by
  rw [← Bool.not_eq_true, B.less_iff (ra, na) (rb, nb)]
theorem B.less_yes (ra : Nat) (na : Int) (rb : Nat) (nb : Int) : B.less ra na rb nb = true ↔ (ra < rb ∨ ra = rb ∧ na < nb) := B.less_iff (ra, na) (rb, nb)
theorem B.cases3 (ra : Nat) (na : Int) (rb : Nat) (nb : Int) (rc : Nat) (nc : Int) : (Hid (B.less ra na rb nb = true) ∧ Hid (B.less rb nb ra na = false) ∧ (Hid (B.less rb nb rc nc = false) ∨ Hid (B.less rb nb rc nc = true) ∧ Hid (B.less ra na rc nc = true))) ∨ (Hid (B.less ra na rb nb = false) ∧ Hid (B.less rb nb ra na = true)) ∨ (Hid (B.less ra na rb nb = false) ∧ Hid (B.less rb nb ra na = false) ∧ ra = rb ∧ na = nb) := by
  unfold Hid
  simp only [B.less_no, B.less_yes]
  by_cases h1 : ra < rb ∨ ra = rb ∧ na < nb
  · refine Or.inl ⟨h1, by omega, ?_⟩
    by_cases h3 : rb < rc ∨ rb = rc ∧ nb < nc
    · exact Or.inr ⟨h3, by omega⟩
    · exact Or.inl h3
  · by_cases h2 : rb < ra ∨ rb = ra ∧ nb < na
    · exact Or.inr (Or.inl ⟨h1, h2⟩)
    · exact Or.inr (Or.inr ⟨h1, h2, by omega, by omega⟩)

set_option maxHeartbeats 3200000 in
theorem border (ra : Nat) (na : Int) (rb : Nat) (nb : Int) (rc : Nat) (nc : Int) (w : World) :
    Calls Try.prog 4 #[bal ra na, bal rb nb, bal rc nc] w fun e w' => e = .returned (.bool true) ∧ Below w.heap.size w w' := by
  have Haa : Hid (B.less ra na ra na = false) := by show _ = _; rw [← Bool.not_eq_true, B.less_iff (ra, na) (ra, na)]; simp
  have Hbig := B.most_ge [(ra, na), (rb, nb), (rc, nc)]
  obtain ⟨m, hm⟩ : ∃ m, m = B.most [(ra, na), (rb, nb), (rc, nc)] := ⟨_, rfl⟩
  rw [← hm] at Hbig
  obtain ⟨ma, mb⟩ := m
  have Hm := Lib.hid hm
  have Hma : Hid (B.less ma mb ra na = false) := Hbig (ra, na) (by simp)
  have Hmb : Hid (B.less ma mb rb nb = false) := Hbig (rb, nb) (by simp)
  have Hmc : Hid (B.less ma mb rc nc = false) := Hbig (rc, nc) (by simp)
  clear hm Hbig
  have hcases : (Hid (B.less ra na rb nb = true) ∧ Hid (B.less rb nb ra na = false) ∧ (Hid (B.less rb nb rc nc = false) ∨ Hid (B.less rb nb rc nc = true) ∧ Hid (B.less ra na rc nc = true))) ∨ (Hid (B.less ra na rb nb = false) ∧ Hid (B.less rb nb ra na = true)) ∨ (Hid (B.less ra na rb nb = false) ∧ Hid (B.less rb nb ra na = false) ∧ ra = rb ∧ na = nb) := B.cases3 ra na rb nb rc nc
  go_enter Try.func4, Try.ntmps4
  go_upto_region 1 with fail
  obtain ⟨w1, hw1⟩ : ∃ w1, w1 = ((w.alloc (.cells #[.int .u32 (ra : Int), .int .i64 na] 27)).alloc (.cells #[.int .u32 (rb : Int), .int .i64 nb] 27)).alloc (.cells #[.int .u32 (rc : Int), .int .i64 nc] 27) := ⟨_, rfl⟩
  rw [← hw1]
  have k : w1.cell? ⟨w.heap.size, 0, none⟩ = some (.int .u32 (ra : Int)) ∧ w1.cell? ⟨w.heap.size, 1, none⟩ = some (.int .i64 na) ∧ w1.cell? ⟨w.heap.size + 1, 0, none⟩ = some (.int .u32 (rb : Int)) ∧ w1.cell? ⟨w.heap.size + 1, 1, none⟩ = some (.int .i64 nb) ∧ w1.cell? ⟨w.heap.size + 1 + 1, 0, none⟩ = some (.int .u32 (rc : Int)) ∧ w1.cell? ⟨w.heap.size + 1 + 1, 1, none⟩ = some (.int .i64 nc) := by
    rw [hw1]
    exact ⟨cellA _ (cellA _ (by simp)), cellA _ (cellA _ (by simp)), cellA _ (by simp), cellA _ (by simp), cellN _ _ (by simp) 0 _ rfl, cellN _ _ (by simp) 1 _ rfl⟩
  have b : Below w.heap.size w w1 := by rw [hw1]; exact (((Below.refl _ _).alloc (Nat.le_refl _) _).alloc (by simp) _).alloc (by simp <;> omega) _
  clear hw1
  rcases hcases with ⟨Hab, Hba, hc⟩ | ⟨Hab, Hba⟩ | ⟨Hab, Hba, rfl, rfl⟩
  · go_wp2_with fail
    refine (less_any ra na rb nb _).mono ?_
    rw [Hab.out]
    rintro e v ⟨rfl, g⟩
    have k : v.cell? ⟨w.heap.size, 0, none⟩ = some (.int .u32 (ra : Int)) ∧ v.cell? ⟨w.heap.size, 1, none⟩ = some (.int .i64 na) ∧ v.cell? ⟨w.heap.size + 1, 0, none⟩ = some (.int .u32 (rb : Int)) ∧ v.cell? ⟨w.heap.size + 1, 1, none⟩ = some (.int .i64 nb) ∧ v.cell? ⟨w.heap.size + 1 + 1, 0, none⟩ = some (.int .u32 (rc : Int)) ∧ v.cell? ⟨w.heap.size + 1 + 1, 1, none⟩ = some (.int .i64 nc) := ⟨cellB g k.1, cellB g k.2.1, cellB g k.2.2.1, cellB g k.2.2.2.1, cellB g k.2.2.2.2.1, cellB g k.2.2.2.2.2⟩
    have b := b.trans (g.mono b.size)
    clear g
    go_wp2_with fail
    refine (less_any rb nb ra na _).mono ?_
    rw [Hba.out]
    rintro e v ⟨rfl, g⟩
    have k : v.cell? ⟨w.heap.size, 0, none⟩ = some (.int .u32 (ra : Int)) ∧ v.cell? ⟨w.heap.size, 1, none⟩ = some (.int .i64 na) ∧ v.cell? ⟨w.heap.size + 1, 0, none⟩ = some (.int .u32 (rb : Int)) ∧ v.cell? ⟨w.heap.size + 1, 1, none⟩ = some (.int .i64 nb) ∧ v.cell? ⟨w.heap.size + 1 + 1, 0, none⟩ = some (.int .u32 (rc : Int)) ∧ v.cell? ⟨w.heap.size + 1 + 1, 1, none⟩ = some (.int .i64 nc) := ⟨cellB g k.1, cellB g k.2.1, cellB g k.2.2.1, cellB g k.2.2.2.1, cellB g k.2.2.2.2.1, cellB g k.2.2.2.2.2⟩
    have b := b.trans (g.mono b.size)
    clear g
    go_wp2_with fail
    refine (less_any ra na rb nb _).mono ?_
    rw [Hab.out]
    rintro e v ⟨rfl, g⟩
    have k : v.cell? ⟨w.heap.size, 0, none⟩ = some (.int .u32 (ra : Int)) ∧ v.cell? ⟨w.heap.size, 1, none⟩ = some (.int .i64 na) ∧ v.cell? ⟨w.heap.size + 1, 0, none⟩ = some (.int .u32 (rb : Int)) ∧ v.cell? ⟨w.heap.size + 1, 1, none⟩ = some (.int .i64 nb) ∧ v.cell? ⟨w.heap.size + 1 + 1, 0, none⟩ = some (.int .u32 (rc : Int)) ∧ v.cell? ⟨w.heap.size + 1 + 1, 1, none⟩ = some (.int .i64 nc) := ⟨cellB g k.1, cellB g k.2.1, cellB g k.2.2.1, cellB g k.2.2.2.1, cellB g k.2.2.2.2.1, cellB g k.2.2.2.2.2⟩
    have b := b.trans (g.mono b.size)
    clear g
    go_wp2_with fail
    refine (less_any ra na ra na _).mono ?_
    rw [Haa.out]
    rintro e v ⟨rfl, g⟩
    have k : v.cell? ⟨w.heap.size, 0, none⟩ = some (.int .u32 (ra : Int)) ∧ v.cell? ⟨w.heap.size, 1, none⟩ = some (.int .i64 na) ∧ v.cell? ⟨w.heap.size + 1, 0, none⟩ = some (.int .u32 (rb : Int)) ∧ v.cell? ⟨w.heap.size + 1, 1, none⟩ = some (.int .i64 nb) ∧ v.cell? ⟨w.heap.size + 1 + 1, 0, none⟩ = some (.int .u32 (rc : Int)) ∧ v.cell? ⟨w.heap.size + 1 + 1, 1, none⟩ = some (.int .i64 nc) := ⟨cellB g k.1, cellB g k.2.1, cellB g k.2.2.1, cellB g k.2.2.2.1, cellB g k.2.2.2.2.1, cellB g k.2.2.2.2.2⟩
    have b := b.trans (g.mono b.size)
    clear g
    go_wp2_with fail
    refine (most_any (some ⟨_, 0, none⟩) 3 [(ra, na), (rb, nb), (rc, nc)] _ _ (by simp) (by simp) (bals3 _ ra na rb nb rc nc) (by simp)).mono ?_
    rw [← Hm.out]
    rintro e v2 ⟨rfl, g⟩
    have k : v2.cell? ⟨w.heap.size, 0, none⟩ = some (.int .u32 (ra : Int)) ∧ v2.cell? ⟨w.heap.size, 1, none⟩ = some (.int .i64 na) ∧ v2.cell? ⟨w.heap.size + 1, 0, none⟩ = some (.int .u32 (rb : Int)) ∧ v2.cell? ⟨w.heap.size + 1, 1, none⟩ = some (.int .i64 nb) ∧ v2.cell? ⟨w.heap.size + 1 + 1, 0, none⟩ = some (.int .u32 (rc : Int)) ∧ v2.cell? ⟨w.heap.size + 1 + 1, 1, none⟩ = some (.int .i64 nc) := ⟨cellB g (cellA _ k.1), cellB g (cellA _ k.2.1), cellB g (cellA _ k.2.2.1), cellB g (cellA _ k.2.2.2.1), cellB g (cellA _ k.2.2.2.2.1), cellB g (cellA _ k.2.2.2.2.2)⟩
    have b := (b.alloc b.size _).trans (g.mono (Nat.le_trans b.size (by simp)))
    clear g
    go_wp2_with fail
    rcases hc with Hbc | ⟨Hbc, Hac⟩
    · go_wp2_with fail
      refine (b_awake _).mono ?_
      rintro e v ⟨rfl, g⟩
      have k : v.cell? ⟨w.heap.size, 0, none⟩ = some (.int .u32 (ra : Int)) ∧ v.cell? ⟨w.heap.size, 1, none⟩ = some (.int .i64 na) ∧ v.cell? ⟨w.heap.size + 1, 0, none⟩ = some (.int .u32 (rb : Int)) ∧ v.cell? ⟨w.heap.size + 1, 1, none⟩ = some (.int .i64 nb) ∧ v.cell? ⟨w.heap.size + 1 + 1, 0, none⟩ = some (.int .u32 (rc : Int)) ∧ v.cell? ⟨w.heap.size + 1 + 1, 1, none⟩ = some (.int .i64 nc) ∧ v.cell? ⟨v2.heap.size, 0, none⟩ = some (.int .u32 (ma : Int)) ∧ v.cell? ⟨v2.heap.size, 1, none⟩ = some (.int .i64 mb) := ⟨cellB g (cellA _ k.1), cellB g (cellA _ k.2.1), cellB g (cellA _ k.2.2.1), cellB g (cellA _ k.2.2.2.1), cellB g (cellA _ k.2.2.2.2.1), cellB g (cellA _ k.2.2.2.2.2), cellB g (by simp), cellB g (by simp)⟩
      have b := (b.alloc b.size _).trans (g.mono (Nat.le_trans b.size (by simp)))
      clear g
      go_wp2_with fail
      refine (less_any ra na rb nb _).mono ?_
      rw [Hab.out]
      rintro e v ⟨rfl, g⟩
      have k : v.cell? ⟨w.heap.size, 0, none⟩ = some (.int .u32 (ra : Int)) ∧ v.cell? ⟨w.heap.size, 1, none⟩ = some (.int .i64 na) ∧ v.cell? ⟨w.heap.size + 1, 0, none⟩ = some (.int .u32 (rb : Int)) ∧ v.cell? ⟨w.heap.size + 1, 1, none⟩ = some (.int .i64 nb) ∧ v.cell? ⟨w.heap.size + 1 + 1, 0, none⟩ = some (.int .u32 (rc : Int)) ∧ v.cell? ⟨w.heap.size + 1 + 1, 1, none⟩ = some (.int .i64 nc) ∧ v.cell? ⟨v2.heap.size, 0, none⟩ = some (.int .u32 (ma : Int)) ∧ v.cell? ⟨v2.heap.size, 1, none⟩ = some (.int .i64 mb) := ⟨cellB g k.1, cellB g k.2.1, cellB g k.2.2.1, cellB g k.2.2.2.1, cellB g k.2.2.2.2.1, cellB g k.2.2.2.2.2.1, cellB g k.2.2.2.2.2.2.1, cellB g k.2.2.2.2.2.2.2⟩
      have b := b.trans (g.mono b.size)
      clear g
      go_wp2_with fail
      refine (less_any rb nb rc nc _).mono ?_
      rw [Hbc.out]
      rintro e v ⟨rfl, g⟩
      have k : v.cell? ⟨w.heap.size, 0, none⟩ = some (.int .u32 (ra : Int)) ∧ v.cell? ⟨w.heap.size, 1, none⟩ = some (.int .i64 na) ∧ v.cell? ⟨w.heap.size + 1, 0, none⟩ = some (.int .u32 (rb : Int)) ∧ v.cell? ⟨w.heap.size + 1, 1, none⟩ = some (.int .i64 nb) ∧ v.cell? ⟨w.heap.size + 1 + 1, 0, none⟩ = some (.int .u32 (rc : Int)) ∧ v.cell? ⟨w.heap.size + 1 + 1, 1, none⟩ = some (.int .i64 nc) ∧ v.cell? ⟨v2.heap.size, 0, none⟩ = some (.int .u32 (ma : Int)) ∧ v.cell? ⟨v2.heap.size, 1, none⟩ = some (.int .i64 mb) := ⟨cellB g k.1, cellB g k.2.1, cellB g k.2.2.1, cellB g k.2.2.2.1, cellB g k.2.2.2.2.1, cellB g k.2.2.2.2.2.1, cellB g k.2.2.2.2.2.2.1, cellB g k.2.2.2.2.2.2.2⟩
      have b := b.trans (g.mono b.size)
      clear g
      go_wp2_with fail
      refine (less_any ma mb ra na _).mono ?_
      rw [Hma.out]
      rintro e v ⟨rfl, g⟩
      have k : v.cell? ⟨w.heap.size, 0, none⟩ = some (.int .u32 (ra : Int)) ∧ v.cell? ⟨w.heap.size, 1, none⟩ = some (.int .i64 na) ∧ v.cell? ⟨w.heap.size + 1, 0, none⟩ = some (.int .u32 (rb : Int)) ∧ v.cell? ⟨w.heap.size + 1, 1, none⟩ = some (.int .i64 nb) ∧ v.cell? ⟨w.heap.size + 1 + 1, 0, none⟩ = some (.int .u32 (rc : Int)) ∧ v.cell? ⟨w.heap.size + 1 + 1, 1, none⟩ = some (.int .i64 nc) ∧ v.cell? ⟨v2.heap.size, 0, none⟩ = some (.int .u32 (ma : Int)) ∧ v.cell? ⟨v2.heap.size, 1, none⟩ = some (.int .i64 mb) := ⟨cellB g k.1, cellB g k.2.1, cellB g k.2.2.1, cellB g k.2.2.2.1, cellB g k.2.2.2.2.1, cellB g k.2.2.2.2.2.1, cellB g k.2.2.2.2.2.2.1, cellB g k.2.2.2.2.2.2.2⟩
      have b := b.trans (g.mono b.size)
      clear g
      go_wp2_with fail
      refine (less_any ma mb rb nb _).mono ?_
      rw [Hmb.out]
      rintro e v ⟨rfl, g⟩
      have k : v.cell? ⟨w.heap.size, 0, none⟩ = some (.int .u32 (ra : Int)) ∧ v.cell? ⟨w.heap.size, 1, none⟩ = some (.int .i64 na) ∧ v.cell? ⟨w.heap.size + 1, 0, none⟩ = some (.int .u32 (rb : Int)) ∧ v.cell? ⟨w.heap.size + 1, 1, none⟩ = some (.int .i64 nb) ∧ v.cell? ⟨w.heap.size + 1 + 1, 0, none⟩ = some (.int .u32 (rc : Int)) ∧ v.cell? ⟨w.heap.size + 1 + 1, 1, none⟩ = some (.int .i64 nc) ∧ v.cell? ⟨v2.heap.size, 0, none⟩ = some (.int .u32 (ma : Int)) ∧ v.cell? ⟨v2.heap.size, 1, none⟩ = some (.int .i64 mb) := ⟨cellB g k.1, cellB g k.2.1, cellB g k.2.2.1, cellB g k.2.2.2.1, cellB g k.2.2.2.2.1, cellB g k.2.2.2.2.2.1, cellB g k.2.2.2.2.2.2.1, cellB g k.2.2.2.2.2.2.2⟩
      have b := b.trans (g.mono b.size)
      clear g
      go_wp2_with fail
      refine (less_any ma mb rc nc _).mono ?_
      rw [Hmc.out]
      rintro e v ⟨rfl, g⟩
      have k : v.cell? ⟨w.heap.size, 0, none⟩ = some (.int .u32 (ra : Int)) ∧ v.cell? ⟨w.heap.size, 1, none⟩ = some (.int .i64 na) ∧ v.cell? ⟨w.heap.size + 1, 0, none⟩ = some (.int .u32 (rb : Int)) ∧ v.cell? ⟨w.heap.size + 1, 1, none⟩ = some (.int .i64 nb) ∧ v.cell? ⟨w.heap.size + 1 + 1, 0, none⟩ = some (.int .u32 (rc : Int)) ∧ v.cell? ⟨w.heap.size + 1 + 1, 1, none⟩ = some (.int .i64 nc) ∧ v.cell? ⟨v2.heap.size, 0, none⟩ = some (.int .u32 (ma : Int)) ∧ v.cell? ⟨v2.heap.size, 1, none⟩ = some (.int .i64 mb) := ⟨cellB g k.1, cellB g k.2.1, cellB g k.2.2.1, cellB g k.2.2.2.1, cellB g k.2.2.2.2.1, cellB g k.2.2.2.2.2.1, cellB g k.2.2.2.2.2.2.1, cellB g k.2.2.2.2.2.2.2⟩
      have b := b.trans (g.mono b.size)
      clear g
      go_wp2_with fail
      go_ret
      exact ⟨rfl, b⟩
    · go_wp2_with fail
      refine (b_awake _).mono ?_
      rintro e v ⟨rfl, g⟩
      have k : v.cell? ⟨w.heap.size, 0, none⟩ = some (.int .u32 (ra : Int)) ∧ v.cell? ⟨w.heap.size, 1, none⟩ = some (.int .i64 na) ∧ v.cell? ⟨w.heap.size + 1, 0, none⟩ = some (.int .u32 (rb : Int)) ∧ v.cell? ⟨w.heap.size + 1, 1, none⟩ = some (.int .i64 nb) ∧ v.cell? ⟨w.heap.size + 1 + 1, 0, none⟩ = some (.int .u32 (rc : Int)) ∧ v.cell? ⟨w.heap.size + 1 + 1, 1, none⟩ = some (.int .i64 nc) ∧ v.cell? ⟨v2.heap.size, 0, none⟩ = some (.int .u32 (ma : Int)) ∧ v.cell? ⟨v2.heap.size, 1, none⟩ = some (.int .i64 mb) := ⟨cellB g (cellA _ k.1), cellB g (cellA _ k.2.1), cellB g (cellA _ k.2.2.1), cellB g (cellA _ k.2.2.2.1), cellB g (cellA _ k.2.2.2.2.1), cellB g (cellA _ k.2.2.2.2.2), cellB g (by simp), cellB g (by simp)⟩
      have b := (b.alloc b.size _).trans (g.mono (Nat.le_trans b.size (by simp)))
      clear g
      go_wp2_with fail
      refine (less_any ra na rb nb _).mono ?_
      rw [Hab.out]
      rintro e v ⟨rfl, g⟩
      have k : v.cell? ⟨w.heap.size, 0, none⟩ = some (.int .u32 (ra : Int)) ∧ v.cell? ⟨w.heap.size, 1, none⟩ = some (.int .i64 na) ∧ v.cell? ⟨w.heap.size + 1, 0, none⟩ = some (.int .u32 (rb : Int)) ∧ v.cell? ⟨w.heap.size + 1, 1, none⟩ = some (.int .i64 nb) ∧ v.cell? ⟨w.heap.size + 1 + 1, 0, none⟩ = some (.int .u32 (rc : Int)) ∧ v.cell? ⟨w.heap.size + 1 + 1, 1, none⟩ = some (.int .i64 nc) ∧ v.cell? ⟨v2.heap.size, 0, none⟩ = some (.int .u32 (ma : Int)) ∧ v.cell? ⟨v2.heap.size, 1, none⟩ = some (.int .i64 mb) := ⟨cellB g k.1, cellB g k.2.1, cellB g k.2.2.1, cellB g k.2.2.2.1, cellB g k.2.2.2.2.1, cellB g k.2.2.2.2.2.1, cellB g k.2.2.2.2.2.2.1, cellB g k.2.2.2.2.2.2.2⟩
      have b := b.trans (g.mono b.size)
      clear g
      go_wp2_with fail
      refine (less_any rb nb rc nc _).mono ?_
      rw [Hbc.out]
      rintro e v ⟨rfl, g⟩
      have k : v.cell? ⟨w.heap.size, 0, none⟩ = some (.int .u32 (ra : Int)) ∧ v.cell? ⟨w.heap.size, 1, none⟩ = some (.int .i64 na) ∧ v.cell? ⟨w.heap.size + 1, 0, none⟩ = some (.int .u32 (rb : Int)) ∧ v.cell? ⟨w.heap.size + 1, 1, none⟩ = some (.int .i64 nb) ∧ v.cell? ⟨w.heap.size + 1 + 1, 0, none⟩ = some (.int .u32 (rc : Int)) ∧ v.cell? ⟨w.heap.size + 1 + 1, 1, none⟩ = some (.int .i64 nc) ∧ v.cell? ⟨v2.heap.size, 0, none⟩ = some (.int .u32 (ma : Int)) ∧ v.cell? ⟨v2.heap.size, 1, none⟩ = some (.int .i64 mb) := ⟨cellB g k.1, cellB g k.2.1, cellB g k.2.2.1, cellB g k.2.2.2.1, cellB g k.2.2.2.2.1, cellB g k.2.2.2.2.2.1, cellB g k.2.2.2.2.2.2.1, cellB g k.2.2.2.2.2.2.2⟩
      have b := b.trans (g.mono b.size)
      clear g
      go_wp2_with fail
      refine (less_any ra na rc nc _).mono ?_
      rw [Hac.out]
      rintro e v ⟨rfl, g⟩
      have k : v.cell? ⟨w.heap.size, 0, none⟩ = some (.int .u32 (ra : Int)) ∧ v.cell? ⟨w.heap.size, 1, none⟩ = some (.int .i64 na) ∧ v.cell? ⟨w.heap.size + 1, 0, none⟩ = some (.int .u32 (rb : Int)) ∧ v.cell? ⟨w.heap.size + 1, 1, none⟩ = some (.int .i64 nb) ∧ v.cell? ⟨w.heap.size + 1 + 1, 0, none⟩ = some (.int .u32 (rc : Int)) ∧ v.cell? ⟨w.heap.size + 1 + 1, 1, none⟩ = some (.int .i64 nc) ∧ v.cell? ⟨v2.heap.size, 0, none⟩ = some (.int .u32 (ma : Int)) ∧ v.cell? ⟨v2.heap.size, 1, none⟩ = some (.int .i64 mb) := ⟨cellB g k.1, cellB g k.2.1, cellB g k.2.2.1, cellB g k.2.2.2.1, cellB g k.2.2.2.2.1, cellB g k.2.2.2.2.2.1, cellB g k.2.2.2.2.2.2.1, cellB g k.2.2.2.2.2.2.2⟩
      have b := b.trans (g.mono b.size)
      clear g
      go_wp2_with fail
      refine (less_any ma mb ra na _).mono ?_
      rw [Hma.out]
      rintro e v ⟨rfl, g⟩
      have k : v.cell? ⟨w.heap.size, 0, none⟩ = some (.int .u32 (ra : Int)) ∧ v.cell? ⟨w.heap.size, 1, none⟩ = some (.int .i64 na) ∧ v.cell? ⟨w.heap.size + 1, 0, none⟩ = some (.int .u32 (rb : Int)) ∧ v.cell? ⟨w.heap.size + 1, 1, none⟩ = some (.int .i64 nb) ∧ v.cell? ⟨w.heap.size + 1 + 1, 0, none⟩ = some (.int .u32 (rc : Int)) ∧ v.cell? ⟨w.heap.size + 1 + 1, 1, none⟩ = some (.int .i64 nc) ∧ v.cell? ⟨v2.heap.size, 0, none⟩ = some (.int .u32 (ma : Int)) ∧ v.cell? ⟨v2.heap.size, 1, none⟩ = some (.int .i64 mb) := ⟨cellB g k.1, cellB g k.2.1, cellB g k.2.2.1, cellB g k.2.2.2.1, cellB g k.2.2.2.2.1, cellB g k.2.2.2.2.2.1, cellB g k.2.2.2.2.2.2.1, cellB g k.2.2.2.2.2.2.2⟩
      have b := b.trans (g.mono b.size)
      clear g
      go_wp2_with fail
      refine (less_any ma mb rb nb _).mono ?_
      rw [Hmb.out]
      rintro e v ⟨rfl, g⟩
      have k : v.cell? ⟨w.heap.size, 0, none⟩ = some (.int .u32 (ra : Int)) ∧ v.cell? ⟨w.heap.size, 1, none⟩ = some (.int .i64 na) ∧ v.cell? ⟨w.heap.size + 1, 0, none⟩ = some (.int .u32 (rb : Int)) ∧ v.cell? ⟨w.heap.size + 1, 1, none⟩ = some (.int .i64 nb) ∧ v.cell? ⟨w.heap.size + 1 + 1, 0, none⟩ = some (.int .u32 (rc : Int)) ∧ v.cell? ⟨w.heap.size + 1 + 1, 1, none⟩ = some (.int .i64 nc) ∧ v.cell? ⟨v2.heap.size, 0, none⟩ = some (.int .u32 (ma : Int)) ∧ v.cell? ⟨v2.heap.size, 1, none⟩ = some (.int .i64 mb) := ⟨cellB g k.1, cellB g k.2.1, cellB g k.2.2.1, cellB g k.2.2.2.1, cellB g k.2.2.2.2.1, cellB g k.2.2.2.2.2.1, cellB g k.2.2.2.2.2.2.1, cellB g k.2.2.2.2.2.2.2⟩
      have b := b.trans (g.mono b.size)
      clear g
      go_wp2_with fail
      refine (less_any ma mb rc nc _).mono ?_
      rw [Hmc.out]
      rintro e v ⟨rfl, g⟩
      have k : v.cell? ⟨w.heap.size, 0, none⟩ = some (.int .u32 (ra : Int)) ∧ v.cell? ⟨w.heap.size, 1, none⟩ = some (.int .i64 na) ∧ v.cell? ⟨w.heap.size + 1, 0, none⟩ = some (.int .u32 (rb : Int)) ∧ v.cell? ⟨w.heap.size + 1, 1, none⟩ = some (.int .i64 nb) ∧ v.cell? ⟨w.heap.size + 1 + 1, 0, none⟩ = some (.int .u32 (rc : Int)) ∧ v.cell? ⟨w.heap.size + 1 + 1, 1, none⟩ = some (.int .i64 nc) ∧ v.cell? ⟨v2.heap.size, 0, none⟩ = some (.int .u32 (ma : Int)) ∧ v.cell? ⟨v2.heap.size, 1, none⟩ = some (.int .i64 mb) := ⟨cellB g k.1, cellB g k.2.1, cellB g k.2.2.1, cellB g k.2.2.2.1, cellB g k.2.2.2.2.1, cellB g k.2.2.2.2.2.1, cellB g k.2.2.2.2.2.2.1, cellB g k.2.2.2.2.2.2.2⟩
      have b := b.trans (g.mono b.size)
      clear g
      go_wp2_with fail
      go_ret
      exact ⟨rfl, b⟩
  · go_wp2_with fail
    refine (less_any ra na rb nb _).mono ?_
    rw [Hab.out]
    rintro e v ⟨rfl, g⟩
    have k : v.cell? ⟨w.heap.size, 0, none⟩ = some (.int .u32 (ra : Int)) ∧ v.cell? ⟨w.heap.size, 1, none⟩ = some (.int .i64 na) ∧ v.cell? ⟨w.heap.size + 1, 0, none⟩ = some (.int .u32 (rb : Int)) ∧ v.cell? ⟨w.heap.size + 1, 1, none⟩ = some (.int .i64 nb) ∧ v.cell? ⟨w.heap.size + 1 + 1, 0, none⟩ = some (.int .u32 (rc : Int)) ∧ v.cell? ⟨w.heap.size + 1 + 1, 1, none⟩ = some (.int .i64 nc) := ⟨cellB g k.1, cellB g k.2.1, cellB g k.2.2.1, cellB g k.2.2.2.1, cellB g k.2.2.2.2.1, cellB g k.2.2.2.2.2⟩
    have b := b.trans (g.mono b.size)
    clear g
    go_wp2_with fail
    refine (less_any ra na rb nb _).mono ?_
    rw [Hab.out]
    rintro e v ⟨rfl, g⟩
    have k : v.cell? ⟨w.heap.size, 0, none⟩ = some (.int .u32 (ra : Int)) ∧ v.cell? ⟨w.heap.size, 1, none⟩ = some (.int .i64 na) ∧ v.cell? ⟨w.heap.size + 1, 0, none⟩ = some (.int .u32 (rb : Int)) ∧ v.cell? ⟨w.heap.size + 1, 1, none⟩ = some (.int .i64 nb) ∧ v.cell? ⟨w.heap.size + 1 + 1, 0, none⟩ = some (.int .u32 (rc : Int)) ∧ v.cell? ⟨w.heap.size + 1 + 1, 1, none⟩ = some (.int .i64 nc) := ⟨cellB g k.1, cellB g k.2.1, cellB g k.2.2.1, cellB g k.2.2.2.1, cellB g k.2.2.2.2.1, cellB g k.2.2.2.2.2⟩
    have b := b.trans (g.mono b.size)
    clear g
    go_wp2_with fail
    refine (less_any rb nb ra na _).mono ?_
    rw [Hba.out]
    rintro e v ⟨rfl, g⟩
    have k : v.cell? ⟨w.heap.size, 0, none⟩ = some (.int .u32 (ra : Int)) ∧ v.cell? ⟨w.heap.size, 1, none⟩ = some (.int .i64 na) ∧ v.cell? ⟨w.heap.size + 1, 0, none⟩ = some (.int .u32 (rb : Int)) ∧ v.cell? ⟨w.heap.size + 1, 1, none⟩ = some (.int .i64 nb) ∧ v.cell? ⟨w.heap.size + 1 + 1, 0, none⟩ = some (.int .u32 (rc : Int)) ∧ v.cell? ⟨w.heap.size + 1 + 1, 1, none⟩ = some (.int .i64 nc) := ⟨cellB g k.1, cellB g k.2.1, cellB g k.2.2.1, cellB g k.2.2.2.1, cellB g k.2.2.2.2.1, cellB g k.2.2.2.2.2⟩
    have b := b.trans (g.mono b.size)
    clear g
    go_wp2_with fail
    refine (less_any ra na ra na _).mono ?_
    rw [Haa.out]
    rintro e v ⟨rfl, g⟩
    have k : v.cell? ⟨w.heap.size, 0, none⟩ = some (.int .u32 (ra : Int)) ∧ v.cell? ⟨w.heap.size, 1, none⟩ = some (.int .i64 na) ∧ v.cell? ⟨w.heap.size + 1, 0, none⟩ = some (.int .u32 (rb : Int)) ∧ v.cell? ⟨w.heap.size + 1, 1, none⟩ = some (.int .i64 nb) ∧ v.cell? ⟨w.heap.size + 1 + 1, 0, none⟩ = some (.int .u32 (rc : Int)) ∧ v.cell? ⟨w.heap.size + 1 + 1, 1, none⟩ = some (.int .i64 nc) := ⟨cellB g k.1, cellB g k.2.1, cellB g k.2.2.1, cellB g k.2.2.2.1, cellB g k.2.2.2.2.1, cellB g k.2.2.2.2.2⟩
    have b := b.trans (g.mono b.size)
    clear g
    go_wp2_with fail
    refine (most_any (some ⟨_, 0, none⟩) 3 [(ra, na), (rb, nb), (rc, nc)] _ _ (by simp) (by simp) (bals3 _ ra na rb nb rc nc) (by simp)).mono ?_
    rw [← Hm.out]
    rintro e v2 ⟨rfl, g⟩
    have k : v2.cell? ⟨w.heap.size, 0, none⟩ = some (.int .u32 (ra : Int)) ∧ v2.cell? ⟨w.heap.size, 1, none⟩ = some (.int .i64 na) ∧ v2.cell? ⟨w.heap.size + 1, 0, none⟩ = some (.int .u32 (rb : Int)) ∧ v2.cell? ⟨w.heap.size + 1, 1, none⟩ = some (.int .i64 nb) ∧ v2.cell? ⟨w.heap.size + 1 + 1, 0, none⟩ = some (.int .u32 (rc : Int)) ∧ v2.cell? ⟨w.heap.size + 1 + 1, 1, none⟩ = some (.int .i64 nc) := ⟨cellB g (cellA _ k.1), cellB g (cellA _ k.2.1), cellB g (cellA _ k.2.2.1), cellB g (cellA _ k.2.2.2.1), cellB g (cellA _ k.2.2.2.2.1), cellB g (cellA _ k.2.2.2.2.2)⟩
    have b := (b.alloc b.size _).trans (g.mono (Nat.le_trans b.size (by simp)))
    clear g
    go_wp2_with fail
    refine (b_awake _).mono ?_
    rintro e v ⟨rfl, g⟩
    have k : v.cell? ⟨w.heap.size, 0, none⟩ = some (.int .u32 (ra : Int)) ∧ v.cell? ⟨w.heap.size, 1, none⟩ = some (.int .i64 na) ∧ v.cell? ⟨w.heap.size + 1, 0, none⟩ = some (.int .u32 (rb : Int)) ∧ v.cell? ⟨w.heap.size + 1, 1, none⟩ = some (.int .i64 nb) ∧ v.cell? ⟨w.heap.size + 1 + 1, 0, none⟩ = some (.int .u32 (rc : Int)) ∧ v.cell? ⟨w.heap.size + 1 + 1, 1, none⟩ = some (.int .i64 nc) ∧ v.cell? ⟨v2.heap.size, 0, none⟩ = some (.int .u32 (ma : Int)) ∧ v.cell? ⟨v2.heap.size, 1, none⟩ = some (.int .i64 mb) := ⟨cellB g (cellA _ k.1), cellB g (cellA _ k.2.1), cellB g (cellA _ k.2.2.1), cellB g (cellA _ k.2.2.2.1), cellB g (cellA _ k.2.2.2.2.1), cellB g (cellA _ k.2.2.2.2.2), cellB g (by simp), cellB g (by simp)⟩
    have b := (b.alloc b.size _).trans (g.mono (Nat.le_trans b.size (by simp)))
    clear g
    go_wp2_with fail
    refine (less_any ra na rb nb _).mono ?_
    rw [Hab.out]
    rintro e v ⟨rfl, g⟩
    have k : v.cell? ⟨w.heap.size, 0, none⟩ = some (.int .u32 (ra : Int)) ∧ v.cell? ⟨w.heap.size, 1, none⟩ = some (.int .i64 na) ∧ v.cell? ⟨w.heap.size + 1, 0, none⟩ = some (.int .u32 (rb : Int)) ∧ v.cell? ⟨w.heap.size + 1, 1, none⟩ = some (.int .i64 nb) ∧ v.cell? ⟨w.heap.size + 1 + 1, 0, none⟩ = some (.int .u32 (rc : Int)) ∧ v.cell? ⟨w.heap.size + 1 + 1, 1, none⟩ = some (.int .i64 nc) ∧ v.cell? ⟨v2.heap.size, 0, none⟩ = some (.int .u32 (ma : Int)) ∧ v.cell? ⟨v2.heap.size, 1, none⟩ = some (.int .i64 mb) := ⟨cellB g k.1, cellB g k.2.1, cellB g k.2.2.1, cellB g k.2.2.2.1, cellB g k.2.2.2.2.1, cellB g k.2.2.2.2.2.1, cellB g k.2.2.2.2.2.2.1, cellB g k.2.2.2.2.2.2.2⟩
    have b := b.trans (g.mono b.size)
    clear g
    go_wp2_with fail
    refine (less_any ma mb ra na _).mono ?_
    rw [Hma.out]
    rintro e v ⟨rfl, g⟩
    have k : v.cell? ⟨w.heap.size, 0, none⟩ = some (.int .u32 (ra : Int)) ∧ v.cell? ⟨w.heap.size, 1, none⟩ = some (.int .i64 na) ∧ v.cell? ⟨w.heap.size + 1, 0, none⟩ = some (.int .u32 (rb : Int)) ∧ v.cell? ⟨w.heap.size + 1, 1, none⟩ = some (.int .i64 nb) ∧ v.cell? ⟨w.heap.size + 1 + 1, 0, none⟩ = some (.int .u32 (rc : Int)) ∧ v.cell? ⟨w.heap.size + 1 + 1, 1, none⟩ = some (.int .i64 nc) ∧ v.cell? ⟨v2.heap.size, 0, none⟩ = some (.int .u32 (ma : Int)) ∧ v.cell? ⟨v2.heap.size, 1, none⟩ = some (.int .i64 mb) := ⟨cellB g k.1, cellB g k.2.1, cellB g k.2.2.1, cellB g k.2.2.2.1, cellB g k.2.2.2.2.1, cellB g k.2.2.2.2.2.1, cellB g k.2.2.2.2.2.2.1, cellB g k.2.2.2.2.2.2.2⟩
    have b := b.trans (g.mono b.size)
    clear g
    go_wp2_with fail
    refine (less_any ma mb rb nb _).mono ?_
    rw [Hmb.out]
    rintro e v ⟨rfl, g⟩
    have k : v.cell? ⟨w.heap.size, 0, none⟩ = some (.int .u32 (ra : Int)) ∧ v.cell? ⟨w.heap.size, 1, none⟩ = some (.int .i64 na) ∧ v.cell? ⟨w.heap.size + 1, 0, none⟩ = some (.int .u32 (rb : Int)) ∧ v.cell? ⟨w.heap.size + 1, 1, none⟩ = some (.int .i64 nb) ∧ v.cell? ⟨w.heap.size + 1 + 1, 0, none⟩ = some (.int .u32 (rc : Int)) ∧ v.cell? ⟨w.heap.size + 1 + 1, 1, none⟩ = some (.int .i64 nc) ∧ v.cell? ⟨v2.heap.size, 0, none⟩ = some (.int .u32 (ma : Int)) ∧ v.cell? ⟨v2.heap.size, 1, none⟩ = some (.int .i64 mb) := ⟨cellB g k.1, cellB g k.2.1, cellB g k.2.2.1, cellB g k.2.2.2.1, cellB g k.2.2.2.2.1, cellB g k.2.2.2.2.2.1, cellB g k.2.2.2.2.2.2.1, cellB g k.2.2.2.2.2.2.2⟩
    have b := b.trans (g.mono b.size)
    clear g
    go_wp2_with fail
    refine (less_any ma mb rc nc _).mono ?_
    rw [Hmc.out]
    rintro e v ⟨rfl, g⟩
    have k : v.cell? ⟨w.heap.size, 0, none⟩ = some (.int .u32 (ra : Int)) ∧ v.cell? ⟨w.heap.size, 1, none⟩ = some (.int .i64 na) ∧ v.cell? ⟨w.heap.size + 1, 0, none⟩ = some (.int .u32 (rb : Int)) ∧ v.cell? ⟨w.heap.size + 1, 1, none⟩ = some (.int .i64 nb) ∧ v.cell? ⟨w.heap.size + 1 + 1, 0, none⟩ = some (.int .u32 (rc : Int)) ∧ v.cell? ⟨w.heap.size + 1 + 1, 1, none⟩ = some (.int .i64 nc) ∧ v.cell? ⟨v2.heap.size, 0, none⟩ = some (.int .u32 (ma : Int)) ∧ v.cell? ⟨v2.heap.size, 1, none⟩ = some (.int .i64 mb) := ⟨cellB g k.1, cellB g k.2.1, cellB g k.2.2.1, cellB g k.2.2.2.1, cellB g k.2.2.2.2.1, cellB g k.2.2.2.2.2.1, cellB g k.2.2.2.2.2.2.1, cellB g k.2.2.2.2.2.2.2⟩
    have b := b.trans (g.mono b.size)
    clear g
    go_wp2_with fail
    go_ret
    exact ⟨rfl, b⟩
  · go_wp2_with fail
    refine (less_any ra na ra na _).mono ?_
    rw [Hab.out]
    rintro e v ⟨rfl, g⟩
    have k : v.cell? ⟨w.heap.size, 0, none⟩ = some (.int .u32 (ra : Int)) ∧ v.cell? ⟨w.heap.size, 1, none⟩ = some (.int .i64 na) ∧ v.cell? ⟨w.heap.size + 1, 0, none⟩ = some (.int .u32 (ra : Int)) ∧ v.cell? ⟨w.heap.size + 1, 1, none⟩ = some (.int .i64 na) ∧ v.cell? ⟨w.heap.size + 1 + 1, 0, none⟩ = some (.int .u32 (rc : Int)) ∧ v.cell? ⟨w.heap.size + 1 + 1, 1, none⟩ = some (.int .i64 nc) := ⟨cellB g k.1, cellB g k.2.1, cellB g k.2.2.1, cellB g k.2.2.2.1, cellB g k.2.2.2.2.1, cellB g k.2.2.2.2.2⟩
    have b := b.trans (g.mono b.size)
    clear g
    go_wp2_with fail
    refine (less_any ra na ra na _).mono ?_
    rw [Hab.out]
    rintro e v ⟨rfl, g⟩
    have k : v.cell? ⟨w.heap.size, 0, none⟩ = some (.int .u32 (ra : Int)) ∧ v.cell? ⟨w.heap.size, 1, none⟩ = some (.int .i64 na) ∧ v.cell? ⟨w.heap.size + 1, 0, none⟩ = some (.int .u32 (ra : Int)) ∧ v.cell? ⟨w.heap.size + 1, 1, none⟩ = some (.int .i64 na) ∧ v.cell? ⟨w.heap.size + 1 + 1, 0, none⟩ = some (.int .u32 (rc : Int)) ∧ v.cell? ⟨w.heap.size + 1 + 1, 1, none⟩ = some (.int .i64 nc) := ⟨cellB g k.1, cellB g k.2.1, cellB g k.2.2.1, cellB g k.2.2.2.1, cellB g k.2.2.2.2.1, cellB g k.2.2.2.2.2⟩
    have b := b.trans (g.mono b.size)
    clear g
    go_wp2_with fail
    refine (less_any ra na ra na _).mono ?_
    rw [Hba.out]
    rintro e v ⟨rfl, g⟩
    have k : v.cell? ⟨w.heap.size, 0, none⟩ = some (.int .u32 (ra : Int)) ∧ v.cell? ⟨w.heap.size, 1, none⟩ = some (.int .i64 na) ∧ v.cell? ⟨w.heap.size + 1, 0, none⟩ = some (.int .u32 (ra : Int)) ∧ v.cell? ⟨w.heap.size + 1, 1, none⟩ = some (.int .i64 na) ∧ v.cell? ⟨w.heap.size + 1 + 1, 0, none⟩ = some (.int .u32 (rc : Int)) ∧ v.cell? ⟨w.heap.size + 1 + 1, 1, none⟩ = some (.int .i64 nc) := ⟨cellB g k.1, cellB g k.2.1, cellB g k.2.2.1, cellB g k.2.2.2.1, cellB g k.2.2.2.2.1, cellB g k.2.2.2.2.2⟩
    have b := b.trans (g.mono b.size)
    clear g
    go_wp2_with fail
    refine (less_any ra na ra na _).mono ?_
    rw [Haa.out]
    rintro e v ⟨rfl, g⟩
    have k : v.cell? ⟨w.heap.size, 0, none⟩ = some (.int .u32 (ra : Int)) ∧ v.cell? ⟨w.heap.size, 1, none⟩ = some (.int .i64 na) ∧ v.cell? ⟨w.heap.size + 1, 0, none⟩ = some (.int .u32 (ra : Int)) ∧ v.cell? ⟨w.heap.size + 1, 1, none⟩ = some (.int .i64 na) ∧ v.cell? ⟨w.heap.size + 1 + 1, 0, none⟩ = some (.int .u32 (rc : Int)) ∧ v.cell? ⟨w.heap.size + 1 + 1, 1, none⟩ = some (.int .i64 nc) := ⟨cellB g k.1, cellB g k.2.1, cellB g k.2.2.1, cellB g k.2.2.2.1, cellB g k.2.2.2.2.1, cellB g k.2.2.2.2.2⟩
    have b := b.trans (g.mono b.size)
    clear g
    go_wp2_with fail
    refine (most_any (some ⟨_, 0, none⟩) 3 [(ra, na), (ra, na), (rc, nc)] _ _ (by simp) (by simp) (bals3 _ ra na ra na rc nc) (by simp)).mono ?_
    rw [← Hm.out]
    rintro e v2 ⟨rfl, g⟩
    have k : v2.cell? ⟨w.heap.size, 0, none⟩ = some (.int .u32 (ra : Int)) ∧ v2.cell? ⟨w.heap.size, 1, none⟩ = some (.int .i64 na) ∧ v2.cell? ⟨w.heap.size + 1, 0, none⟩ = some (.int .u32 (ra : Int)) ∧ v2.cell? ⟨w.heap.size + 1, 1, none⟩ = some (.int .i64 na) ∧ v2.cell? ⟨w.heap.size + 1 + 1, 0, none⟩ = some (.int .u32 (rc : Int)) ∧ v2.cell? ⟨w.heap.size + 1 + 1, 1, none⟩ = some (.int .i64 nc) := ⟨cellB g (cellA _ k.1), cellB g (cellA _ k.2.1), cellB g (cellA _ k.2.2.1), cellB g (cellA _ k.2.2.2.1), cellB g (cellA _ k.2.2.2.2.1), cellB g (cellA _ k.2.2.2.2.2)⟩
    have b := (b.alloc b.size _).trans (g.mono (Nat.le_trans b.size (by simp)))
    clear g
    go_wp2_with fail
    refine (b_awake _).mono ?_
    rintro e v ⟨rfl, g⟩
    have k : v.cell? ⟨w.heap.size, 0, none⟩ = some (.int .u32 (ra : Int)) ∧ v.cell? ⟨w.heap.size, 1, none⟩ = some (.int .i64 na) ∧ v.cell? ⟨w.heap.size + 1, 0, none⟩ = some (.int .u32 (ra : Int)) ∧ v.cell? ⟨w.heap.size + 1, 1, none⟩ = some (.int .i64 na) ∧ v.cell? ⟨w.heap.size + 1 + 1, 0, none⟩ = some (.int .u32 (rc : Int)) ∧ v.cell? ⟨w.heap.size + 1 + 1, 1, none⟩ = some (.int .i64 nc) ∧ v.cell? ⟨v2.heap.size, 0, none⟩ = some (.int .u32 (ma : Int)) ∧ v.cell? ⟨v2.heap.size, 1, none⟩ = some (.int .i64 mb) := ⟨cellB g (cellA _ k.1), cellB g (cellA _ k.2.1), cellB g (cellA _ k.2.2.1), cellB g (cellA _ k.2.2.2.1), cellB g (cellA _ k.2.2.2.2.1), cellB g (cellA _ k.2.2.2.2.2), cellB g (by simp), cellB g (by simp)⟩
    have b := (b.alloc b.size _).trans (g.mono (Nat.le_trans b.size (by simp)))
    clear g
    go_wp2_with fail
    refine (less_any ra na ra na _).mono ?_
    rw [Hab.out]
    rintro e v ⟨rfl, g⟩
    have k : v.cell? ⟨w.heap.size, 0, none⟩ = some (.int .u32 (ra : Int)) ∧ v.cell? ⟨w.heap.size, 1, none⟩ = some (.int .i64 na) ∧ v.cell? ⟨w.heap.size + 1, 0, none⟩ = some (.int .u32 (ra : Int)) ∧ v.cell? ⟨w.heap.size + 1, 1, none⟩ = some (.int .i64 na) ∧ v.cell? ⟨w.heap.size + 1 + 1, 0, none⟩ = some (.int .u32 (rc : Int)) ∧ v.cell? ⟨w.heap.size + 1 + 1, 1, none⟩ = some (.int .i64 nc) ∧ v.cell? ⟨v2.heap.size, 0, none⟩ = some (.int .u32 (ma : Int)) ∧ v.cell? ⟨v2.heap.size, 1, none⟩ = some (.int .i64 mb) := ⟨cellB g k.1, cellB g k.2.1, cellB g k.2.2.1, cellB g k.2.2.2.1, cellB g k.2.2.2.2.1, cellB g k.2.2.2.2.2.1, cellB g k.2.2.2.2.2.2.1, cellB g k.2.2.2.2.2.2.2⟩
    have b := b.trans (g.mono b.size)
    clear g
    go_wp2_with fail
    refine (less_any ma mb ra na _).mono ?_
    rw [Hma.out]
    rintro e v ⟨rfl, g⟩
    have k : v.cell? ⟨w.heap.size, 0, none⟩ = some (.int .u32 (ra : Int)) ∧ v.cell? ⟨w.heap.size, 1, none⟩ = some (.int .i64 na) ∧ v.cell? ⟨w.heap.size + 1, 0, none⟩ = some (.int .u32 (ra : Int)) ∧ v.cell? ⟨w.heap.size + 1, 1, none⟩ = some (.int .i64 na) ∧ v.cell? ⟨w.heap.size + 1 + 1, 0, none⟩ = some (.int .u32 (rc : Int)) ∧ v.cell? ⟨w.heap.size + 1 + 1, 1, none⟩ = some (.int .i64 nc) ∧ v.cell? ⟨v2.heap.size, 0, none⟩ = some (.int .u32 (ma : Int)) ∧ v.cell? ⟨v2.heap.size, 1, none⟩ = some (.int .i64 mb) := ⟨cellB g k.1, cellB g k.2.1, cellB g k.2.2.1, cellB g k.2.2.2.1, cellB g k.2.2.2.2.1, cellB g k.2.2.2.2.2.1, cellB g k.2.2.2.2.2.2.1, cellB g k.2.2.2.2.2.2.2⟩
    have b := b.trans (g.mono b.size)
    clear g
    go_wp2_with fail
    refine (less_any ma mb ra na _).mono ?_
    rw [Hmb.out]
    rintro e v ⟨rfl, g⟩
    have k : v.cell? ⟨w.heap.size, 0, none⟩ = some (.int .u32 (ra : Int)) ∧ v.cell? ⟨w.heap.size, 1, none⟩ = some (.int .i64 na) ∧ v.cell? ⟨w.heap.size + 1, 0, none⟩ = some (.int .u32 (ra : Int)) ∧ v.cell? ⟨w.heap.size + 1, 1, none⟩ = some (.int .i64 na) ∧ v.cell? ⟨w.heap.size + 1 + 1, 0, none⟩ = some (.int .u32 (rc : Int)) ∧ v.cell? ⟨w.heap.size + 1 + 1, 1, none⟩ = some (.int .i64 nc) ∧ v.cell? ⟨v2.heap.size, 0, none⟩ = some (.int .u32 (ma : Int)) ∧ v.cell? ⟨v2.heap.size, 1, none⟩ = some (.int .i64 mb) := ⟨cellB g k.1, cellB g k.2.1, cellB g k.2.2.1, cellB g k.2.2.2.1, cellB g k.2.2.2.2.1, cellB g k.2.2.2.2.2.1, cellB g k.2.2.2.2.2.2.1, cellB g k.2.2.2.2.2.2.2⟩
    have b := b.trans (g.mono b.size)
    clear g
    go_wp2_with fail
    refine (less_any ma mb rc nc _).mono ?_
    rw [Hmc.out]
    rintro e v ⟨rfl, g⟩
    have k : v.cell? ⟨w.heap.size, 0, none⟩ = some (.int .u32 (ra : Int)) ∧ v.cell? ⟨w.heap.size, 1, none⟩ = some (.int .i64 na) ∧ v.cell? ⟨w.heap.size + 1, 0, none⟩ = some (.int .u32 (ra : Int)) ∧ v.cell? ⟨w.heap.size + 1, 1, none⟩ = some (.int .i64 na) ∧ v.cell? ⟨w.heap.size + 1 + 1, 0, none⟩ = some (.int .u32 (rc : Int)) ∧ v.cell? ⟨w.heap.size + 1 + 1, 1, none⟩ = some (.int .i64 nc) ∧ v.cell? ⟨v2.heap.size, 0, none⟩ = some (.int .u32 (ma : Int)) ∧ v.cell? ⟨v2.heap.size, 1, none⟩ = some (.int .i64 mb) := ⟨cellB g k.1, cellB g k.2.1, cellB g k.2.2.1, cellB g k.2.2.2.1, cellB g k.2.2.2.2.1, cellB g k.2.2.2.2.2.1, cellB g k.2.2.2.2.2.2.1, cellB g k.2.2.2.2.2.2.2⟩
    have b := b.trans (g.mono b.size)
    clear g
    go_wp2_with fail
    go_ret
    exact ⟨rfl, b⟩
theorem ballotOrder_walk (W : World) (v0 v1 v2 : Value) (h0 : Arg W 27 v0) (h1 : Arg W 27 v1) (h2 : Arg W 27 v2) :
    Calls Try.prog 4 #[v0, v1, v2] W fun e W' => e = .returned (.bool true) ∧ Below W.heap.size W W' := by
  obtain ⟨ra, na, rfl, _⟩ := h0.bal
  obtain ⟨rb, nb, rfl, _⟩ := h1.bal
  obtain ⟨rc, nc, rfl, _⟩ := h2.bal
  exact border ra na rb nb rc nc W
end Go.Proofs.Ytfpblaggnehnoaa
