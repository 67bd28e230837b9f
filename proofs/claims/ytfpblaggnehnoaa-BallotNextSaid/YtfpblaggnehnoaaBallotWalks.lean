/- The walks of layer 6's functions on ballots, and of the reference's. Conditions: a round is a uint32. -/
import Derived.Test.YtfpblaggnehnoaaArgs
namespace Go.Proofs.Ytfpblaggnehnoaa
open Go.RowKit
set_option linter.unusedSimpArgs false
set_option linter.unusedVariables false

namespace B
def less (r1 : Nat) (n1 : Int) (r2 : Nat) (n2 : Int) : Bool := decide (r1 < r2) || (decide (r1 = r2) && decide (n1 < n2))
def formed (n : Int) : Bool := decide (0 ≤ n) && decide (n < 5)
end B
/-- a ballot as a value -/
abbrev bal (r : Nat) (n : Int) : Value := .agg #[.int .u32 (r : Int), .int .i64 n]

theorem belowOfDrewX {B : Nat} {w w' : World} (h : Below B w.drew w') : Below B w w' := ⟨h.os, h.tape, h.output, h.size, h.block⟩
theorem cellB {W W' : World} {p : Addr} {v : Value} (hb : Below W.heap.size W W') (h : W.cell? p = some v) : W'.cell? p = some v := (hb.cell (World.block_lt_of_cell? W _ h)).trans h
theorem cellA {W : World} {p : Addr} {v : Value} (o : Obj) (h : W.cell? p = some v) : (W.alloc o).cell? p = some v := (World.cell?_alloc_lt W o p (World.block_lt_of_cell? W _ h)).trans h
theorem bcell {W w1 : World} (hb : Below W.heap.size W w1) : (∀ b o, b < W.heap.size → w1.cell? ⟨b, o, none⟩ = W.cell? ⟨b, o, none⟩) ∧ (∀ b o, b < W.heap.size → w1.frozen? ⟨b, o, none⟩ = W.frozen? ⟨b, o, none⟩) :=
  ⟨fun b o h => hb.cell (p := ⟨b, o, none⟩) h, fun b o h => hb.frozen (p := ⟨b, o, none⟩) h⟩

set_option maxHeartbeats 400000 in
theorem formed_any (r : Nat) (n : Int) (w : World) :
    Calls Try.prog 24 #[bal r n] w fun e w' => e = .returned (.bool (B.formed n)) ∧ Below w.heap.size w w' := by
  go_enter Try.func24, Try.ntmps24
  go_wp2
  all_goals
    go_ret
    exact ⟨ret_bool (by unfold B.formed; first | rfl | (simp; omega) | (rw [Bool.eq_iff_iff]; simp)), (Below.refl _ _).alloc (Nat.le_refl _) _⟩
set_option maxHeartbeats 400000 in
theorem rformed_any (r : Nat) (n : Int) (w : World) :
    Calls Try.prog 25 #[bal r n] w fun e w' => e = .returned (.bool (B.formed n)) ∧ Below w.heap.size w w' := by
  go_enter Try.func25, Try.ntmps25
  go_wp2
  all_goals
    go_ret
    exact ⟨ret_bool (by unfold B.formed; first | rfl | (simp; omega) | (rw [Bool.eq_iff_iff]; simp; omega)), (Below.refl _ _).alloc (Nat.le_refl _) _⟩

set_option maxHeartbeats 400000 in
theorem less_any (r1 : Nat) (n1 : Int) (r2 : Nat) (n2 : Int) (w : World) :
    Calls Try.prog 21 #[bal r1 n1, bal r2 n2] w fun e w' => e = .returned (.bool (B.less r1 n1 r2 n2)) ∧ Below w.heap.size w w' := by
  rcases Nat.lt_trichotomy r1 r2 with h | h | h
  · have H : Hid (B.less r1 n1 r2 n2 = true) := by show _ = _; unfold B.less; simp [h]
    rw [H.out]
    have hne : ((r1 : Int) == (r2 : Int)) = false := by simp; omega
    have hne2 : ((r1 : Int) != (r2 : Int)) = true := by simp; omega
    go_enter Try.func21, Try.ntmps21
    go_wp2
    go_ret
    exact ⟨ret_bool (by simp; try omega), ((Below.refl _ _).alloc (Nat.le_refl _) _).alloc (by simp) _⟩
  · subst h
    have H : Hid (B.less r1 n1 r1 n2 = decide (n1 < n2)) := by show _ = _; unfold B.less; simp
    rw [H.out]
    go_enter Try.func21, Try.ntmps21
    go_wp2
    go_ret
    exact ⟨ret_bool (by simp), ((Below.refl _ _).alloc (Nat.le_refl _) _).alloc (by simp) _⟩
  · have H : Hid (B.less r1 n1 r2 n2 = false) := by show _ = _; unfold B.less; simp; omega
    rw [H.out]
    have hlt : ¬ r1 < r2 := by omega
    have hne : ((r1 : Int) == (r2 : Int)) = false := by simp; omega
    have hne2 : ((r1 : Int) != (r2 : Int)) = true := by simp; omega
    go_enter Try.func21, Try.ntmps21
    go_wp2
    go_ret
    exact ⟨ret_bool (by simp; try omega), ((Below.refl _ _).alloc (Nat.le_refl _) _).alloc (by simp) _⟩
set_option maxHeartbeats 400000 in
theorem rless_any (r1 : Nat) (n1 : Int) (r2 : Nat) (n2 : Int) (w : World) :
    Calls Try.prog 26 #[bal r1 n1, bal r2 n2] w fun e w' => e = .returned (.bool (B.less r1 n1 r2 n2)) ∧ Below w.heap.size w w' := by
  rcases Nat.lt_trichotomy r1 r2 with h | h | h
  · have H : Hid (B.less r1 n1 r2 n2 = true) := by show _ = _; unfold B.less; simp [h]
    rw [H.out]
    have hne : ((r1 : Int) == (r2 : Int)) = false := by simp; omega
    have hne2 : ((r1 : Int) != (r2 : Int)) = true := by simp; omega
    go_enter Try.func26, Try.ntmps26
    go_wp2
    go_ret
    exact ⟨ret_bool (by simp; try omega), ((Below.refl _ _).alloc (Nat.le_refl _) _).alloc (by simp) _⟩
  · subst h
    have H : Hid (B.less r1 n1 r1 n2 = decide (n1 < n2)) := by show _ = _; unfold B.less; simp
    rw [H.out]
    go_enter Try.func26, Try.ntmps26
    go_wp2
    go_ret
    exact ⟨ret_bool (by simp), ((Below.refl _ _).alloc (Nat.le_refl _) _).alloc (by simp) _⟩
  · have H : Hid (B.less r1 n1 r2 n2 = false) := by show _ = _; unfold B.less; simp; omega
    rw [H.out]
    have hlt : ¬ r1 < r2 := by omega
    have hne : ((r1 : Int) == (r2 : Int)) = false := by simp; omega
    have hne2 : ((r1 : Int) != (r2 : Int)) = true := by simp; omega
    go_enter Try.func26, Try.ntmps26
    go_wp2
    go_ret
    exact ⟨ret_bool (by simp; try omega), ((Below.refl _ _).alloc (Nat.le_refl _) _).alloc (by simp) _⟩

/-- what Next answers: a ballot, and an error -/
def B.next (r : Nat) (n : Int) (k : Int) : Nat × Int × Int := if k < 0 ∨ 5 ≤ k then (0, 0, 1) else if r = 4294967295 then (0, 0, 7) else (r + 1, k, 0)

set_option maxHeartbeats 800000 in
theorem next_any (r : Nat) (n k : Int) (w : World) (hr : r < 4294967296) :
    Calls Try.prog 22 #[bal r n, .int .i64 k] w fun e w' => e = .returned (.tuple #[bal (B.next r n k).1 (B.next r n k).2.1, .int .i64 (B.next r n k).2.2]) ∧ Below w.heap.size w w' := by
  by_cases h0 : k < 0
  · have H : Hid (B.next r n k = (0, 0, 1)) := by show _ = _; unfold B.next; rw [if_pos (by omega)]
    rw [H.out]
    go_enter Try.func22, Try.ntmps22
    go_wp2_with fail
    exact bodyPost_ret (v := .tuple #[.agg #[.int .u32 0, .int .i64 0], .int .i64 1]) (by simp [results, Try.results22, go_sem]) rfl ⟨rfl, ((Below.refl _ _).alloc (Nat.le_refl _) _).alloc (by simp) _⟩
  · by_cases h5 : 5 ≤ k
    · have H : Hid (B.next r n k = (0, 0, 1)) := by show _ = _; unfold B.next; rw [if_pos (by omega)]
      rw [H.out]
      go_enter Try.func22, Try.ntmps22
      go_wp2_with fail
      exact bodyPost_ret (v := .tuple #[.agg #[.int .u32 0, .int .i64 0], .int .i64 1]) (by simp [results, Try.results22, go_sem]) rfl ⟨rfl, ((Below.refl _ _).alloc (Nat.le_refl _) _).alloc (by simp) _⟩
    · by_cases hm : r = 4294967295
      · subst hm
        have H : Hid (B.next 4294967295 n k = (0, 0, 7)) := by show _ = _; unfold B.next; rw [if_neg (by omega), if_pos rfl]
        rw [H.out]
        go_enter Try.func22, Try.ntmps22
        go_wp2_with fail
        exact bodyPost_ret (v := .tuple #[.agg #[.int .u32 0, .int .i64 0], .int .i64 7]) (by simp [results, Try.results22, go_sem]) rfl ⟨rfl, ((Below.refl _ _).alloc (Nat.le_refl _) _).alloc (by simp) _⟩
      · have H : Hid (B.next r n k = (r + 1, k, 0)) := by show _ = _; unfold B.next; rw [if_neg (by omega), if_neg hm]
        rw [H.out]
        have hne : ((r : Int) == 4294967295) = false := by simp; omega
        go_enter Try.func22, Try.ntmps22
        go_wp2_with fail
        exact bodyPost_ret (v := .tuple #[.agg #[.int .u32 ((r + 1 : Nat) : Int), .int .i64 k], .int .i64 0]) (by simp [results, Try.results22, go_sem]) rfl ⟨rfl, ((Below.refl _ _).alloc (Nat.le_refl _) _).alloc (by simp) _⟩
set_option maxHeartbeats 800000 in
theorem rnext_any (r : Nat) (n k : Int) (w : World) (hr : r < 4294967296) :
    Calls Try.prog 23 #[bal r n, .int .i64 k] w fun e w' => e = .returned (.tuple #[bal (B.next r n k).1 (B.next r n k).2.1, .int .i64 (B.next r n k).2.2]) ∧ Below w.heap.size w w' := by
  by_cases h0 : k < 0
  · have HF : Hid (B.formed k = false) := by show _ = _; unfold B.formed; simp; omega
    have H : Hid (B.next r n k = (0, 0, 1)) := by show _ = _; unfold B.next; rw [if_pos (by omega)]
    rw [H.out]
    go_enter Try.func23, Try.ntmps23
    go_wp2_with fail
    refine (rformed_any 0 k _).mono ?_
    rintro e w1 ⟨rfl, hb⟩
    rw [HF.out]
    obtain ⟨hc, hf⟩ := bcell hb
    have hz : w.heap.size + 1 < w1.heap.size := by have := hb.size; simp at this; omega
    go_wp2_with fail
    refine bodyPost_ret (v := .tuple #[.agg #[.int .u32 0, .int .i64 0], .int .i64 1]) (by simp [results, Try.results23, go_sem, hc, hf, hz]) rfl ⟨rfl, ?_⟩
    exact (((((Below.refl _ _).alloc (Nat.le_refl _) _).alloc (by simp) _).trans (hb.mono (by simp; omega))).setCell (by simp) _).setCell (by simp) _
  · by_cases h5 : 5 ≤ k
    · have HF : Hid (B.formed k = false) := by show _ = _; unfold B.formed; simp; omega
      have H : Hid (B.next r n k = (0, 0, 1)) := by show _ = _; unfold B.next; rw [if_pos (by omega)]
      rw [H.out]
      go_enter Try.func23, Try.ntmps23
      go_wp2_with fail
      refine (rformed_any 0 k _).mono ?_
      rintro e w1 ⟨rfl, hb⟩
      rw [HF.out]
      obtain ⟨hc, hf⟩ := bcell hb
      have hz : w.heap.size + 1 < w1.heap.size := by have := hb.size; simp at this; omega
      go_wp2_with fail
      refine bodyPost_ret (v := .tuple #[.agg #[.int .u32 0, .int .i64 0], .int .i64 1]) (by simp [results, Try.results23, go_sem, hc, hf, hz]) rfl ⟨rfl, ?_⟩
      exact (((((Below.refl _ _).alloc (Nat.le_refl _) _).alloc (by simp) _).trans (hb.mono (by simp; omega))).setCell (by simp) _).setCell (by simp) _
    · have HF : Hid (B.formed k = true) := by show _ = _; unfold B.formed; simp; omega
      by_cases hm : r = 4294967295
      · subst hm
        have H : Hid (B.next 4294967295 n k = (0, 0, 7)) := by show _ = _; unfold B.next; rw [if_neg (by omega), if_pos rfl]
        rw [H.out]
        go_enter Try.func23, Try.ntmps23
        go_wp2_with fail
        refine (rformed_any 0 k _).mono ?_
        rintro e w1 ⟨rfl, hb⟩
        rw [HF.out]
        obtain ⟨hc, hf⟩ := bcell hb
        have hz : w.heap.size + 1 < w1.heap.size := by have := hb.size; simp at this; omega
        go_wp2_with fail
        refine bodyPost_ret (v := .tuple #[.agg #[.int .u32 0, .int .i64 0], .int .i64 7]) (by simp [results, Try.results23, go_sem, hc, hf, hz]) rfl ⟨rfl, ?_⟩
        exact (((((Below.refl _ _).alloc (Nat.le_refl _) _).alloc (by simp) _).trans (hb.mono (by simp; omega))).setCell (by simp) _).setCell (by simp) _
      · have H : Hid (B.next r n k = (r + 1, k, 0)) := by show _ = _; unfold B.next; rw [if_neg (by omega), if_neg hm]
        rw [H.out]
        have hne : ((r : Int) == 4294967295) = false := by simp; omega
        go_enter Try.func23, Try.ntmps23
        go_wp2_with fail
        refine (rformed_any 0 k _).mono ?_
        rintro e w1 ⟨rfl, hb⟩
        rw [HF.out]
        obtain ⟨hc, hf⟩ := bcell hb
        have hz : w.heap.size + 1 < w1.heap.size := by have := hb.size; simp at this; omega
        go_wp2_with fail
        refine bodyPost_ret (v := .tuple #[.agg #[.int .u32 ((r + 1 : Nat) : Int), .int .i64 k], .int .i64 0]) (by simp [results, Try.results23, go_sem, hc, hf, hz]) rfl ⟨rfl, ?_⟩
        exact (((((Below.refl _ _).alloc (Nat.le_refl _) _).alloc (by simp) _).trans (hb.mono (by simp; omega))).setCell (by simp) _).setCell (by simp) _

set_option maxHeartbeats 400000 in
theorem b_awake (w : World) : Calls Try.prog 18 #[] w fun e w' => e = .returned (.bool true) ∧ Below w.heap.size w w' := by
  have H : Hid (B.less 0 0 1 0 = true) := by show _ = _; decide
  go_enter Try.func18, Try.ntmps18
  go_wp2_with fail
  refine (less_any 0 0 1 0 w).mono ?_
  rintro e w1 ⟨rfl, hb⟩
  rw [H.out]
  go_wp2
  go_ret
  exact ⟨rfl, hb⟩

/-- a ballot that came in -/
theorem cells27 : Try.prog.cellsOf 27 = 2 := by kernel_rfl
theorem cells25 : Try.prog.cellsOf 25 = 1 := by kernel_rfl
theorem cellsInt : Try.prog.cellsOf 3 = 1 := by kernel_rfl
theorem Cel.bal {W : World} {cs : List Value} (h : Cel W 27 cs) : ∃ (r : Nat) (n : Int), cs = [.int .u32 (r : Int), .int .i64 n] ∧ r < 4294967296 ∧ -9223372036854775808 ≤ n ∧ n ≤ 9223372036854775807 := by
  have hl := h.len Try.underlying27
  rw [cells27] at hl
  match cs, hl with
  | [a, b], _ =>
    obtain ⟨x0, e0, hx⟩ := (h.field1 Try.underlying27 0 0 25 _ rfl rfl rfl cells25 a rfl).u32 Try.underlying25
    obtain ⟨x1, e1, hy⟩ := (h.field1 Try.underlying27 1 1 3 _ rfl rfl rfl cellsInt b rfl).i64 Try.underlying3
    simp at e0 e1
    subst e0; subst e1
    exact ⟨x0, x1, rfl, hx, hy⟩
theorem Arg.bal {W : World} {v : Value} (h : Arg W 27 v) : ∃ (r : Nat) (n : Int), v = bal r n ∧ r < 4294967296 ∧ -9223372036854775808 ≤ n ∧ n ≤ 9223372036854775807 := by
  obtain ⟨⟨cs⟩, rfl, hc⟩ := h.struct Try.underlying27
  obtain ⟨r, n, rfl, hb⟩ := hc.bal
  exact ⟨r, n, rfl, hb⟩
end Go.Proofs.Ytfpblaggnehnoaa
