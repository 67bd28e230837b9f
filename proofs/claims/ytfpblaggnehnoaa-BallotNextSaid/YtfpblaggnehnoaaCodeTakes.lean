/- The walk of the law CodeTakes. -/
import Derived.Test.YtfpblaggnehnoaaRefReads
import Derived.Test.YtfpblaggnehnoaaCodeOrder
import Derived.Test.YtfpblaggnehnoaaArgs
import Derived.Deep.RegionHeld3
namespace Go.Proofs.Ytfpblaggnehnoaa
open Go.RowKit
set_option linter.unusedSimpArgs false
set_option linter.unusedVariables false

theorem RdrAt.other {w w' : World} {B g k : Nat} {s : C.St} (h : RdrAt w B g s) (hg : w.grownBy w' (some k)) (hk : k ≠ g) (hB : B ≤ k) : RdrAt w' B g s := by
  obtain ⟨A, c, hb, h1, h2, h3, hr, h4⟩ := h
  exact ⟨A, c, (hg.block g (ltAt hb) (fun e => hk (by injection e with e; exact e.symm))).trans hb, h1, h2, h3, hr.grownOther hg hB, h4⟩
theorem RefAt.other {w w' : World} {B g k : Nat} {s : C.St} (h : RefAt w B g s) (hg : w.grownBy w' (some k)) (hk : k ≠ g) (hB : B ≤ k) : RefAt w' B g s := by
  obtain ⟨A, c, full, at_, hb, h1, h2, h3, hr, h4, h5⟩ := h
  exact ⟨A, c, full, at_, (hg.block g (ltAt hb) (fun e => hk (by injection e with e; exact e.symm))).trans hb, h1, h2, h3, hr.grownOther hg hB, h4, h5⟩
theorem RdrAt.alloc {w : World} {B g : Nat} {s : C.St} (h : RdrAt w B g s) (o : Obj) : RdrAt (w.alloc o) B g s := by
  obtain ⟨A, c, hb, h1, h2, h3, hr, h4⟩ := h
  exact ⟨A, c, (Below.heap_alloc w o g (ltAt hb)).trans hb, h1, h2, h3, hr.alloc (by have := ltAt hb; omega) o, h4⟩

/-- an operation: a text or a number -/
abbrev Opn := Bool × Int
def OpsAt (w : World) (B : Nat) (A : Option Addr) (fl : List Opn) : Prop :=
  ∀ i f, fl[i]? = some f → ∃ b off, A = some ⟨b, off, none⟩ ∧ b < B ∧ w.cell? ⟨b, off + i * 2, none⟩ = some (.bool f.1) ∧ w.cell? ⟨b, off + i * 2 + 1, none⟩ = some (.int .i64 f.2)
theorem OpsAt.below {w w' : World} {B : Nat} {A : Option Addr} {fl : List Opn} (h : OpsAt w B A fl) (hb : Below B w w') : OpsAt w' B A fl := fun i f hf => by
  obtain ⟨b, off, hA, hB, h0, h1⟩ := h i f hf
  exact ⟨b, off, hA, hB, (hb.cell hB).trans h0, (hb.cell hB).trans h1⟩
theorem cellsOp : Try.prog.cellsOf 76 = 2 := by kernel_rfl
theorem cellsB : Try.prog.cellsOf 4 = 1 := by kernel_rfl
theorem cellsI : Try.prog.cellsOf 3 = 1 := by kernel_rfl
theorem Cel.opn {W : World} {cs : List Value} (h : Cel W 76 cs) : ∃ f : Opn, cs = [.bool f.1, .int .i64 f.2] := by
  have hl := h.len Try.underlying76
  rw [cellsOp] at hl
  match cs, hl with
  | [a, b], _ =>
    obtain ⟨x0, e0⟩ := (h.field1 Try.underlying76 0 0 4 _ rfl rfl rfl cellsB a rfl).bool Try.underlying4
    obtain ⟨x1, e1, _⟩ := (h.field1 Try.underlying76 1 1 3 _ rfl rfl rfl cellsI b rfl).i64 Try.underlying3
    simp at e0 e1
    subst e0; subst e1
    exact ⟨(x0, x1), rfl⟩
theorem Arg.ops {W : World} {v : Value} (h : Arg W 71 v) : ∃ (A : Option Addr) (c : Nat) (fl : List Opn), v = .slice A fl.length c ∧ fl.length ≤ c ∧ c ≤ maxLen ∧ OpsAt W W.heap.size A fl := by
  obtain ⟨A, n, c, rfl, hc⟩ := h.slice Try.underlying71
  obtain ⟨hn, hm, hA, hat⟩ := hc.sliceAt Try.underlying71 2 cellsOp (by omega)
  by_cases h0 : 0 < n
  · obtain ⟨b, off, rfl, hb, hi⟩ := hat h0
    have hex : ∀ i, ∃ f : Opn, i < n → (W.cell? ⟨b, off + i * 2, none⟩ = some (.bool f.1) ∧ W.cell? ⟨b, off + i * 2 + 1, none⟩ = some (.int .i64 f.2)) := by
      intro i
      by_cases hlt : i < n
      · obtain ⟨cs', _, hce, hj⟩ := hi i hlt
        obtain ⟨f, rfl⟩ := hce.opn
        exact ⟨f, fun _ => ⟨hj 0 (by omega), hj 1 (by omega)⟩⟩
      · exact ⟨(false, 0), fun h => absurd h hlt⟩
    refine ⟨some ⟨b, off, none⟩, c, (List.range n).map fun i => (hex i).choose, by simp, by simpa using hn, hm, fun i f hf => ?_⟩
    have hlt : i < n := by have := (List.getElem?_eq_some_iff.1 hf).1; simpa using this
    have hfe : f = (hex i).choose := by simpa [hlt] using hf.symm
    subst hfe
    exact ⟨b, off, rfl, hb, (hex i).choose_spec hlt⟩
  · obtain rfl : n = 0 := by omega
    exact ⟨A, c, [], rfl, by simp, hm, fun i f hf => by simp at hf⟩

theorem grownFromDrew {a w : World} {row : Option Nat} (h : (a.drew).grownBy w row) : a.grownBy w row := ⟨h.os, h.tape, h.output, h.size, h.block⟩
theorem RefAt.cell {w : World} {B g : Nat} {s : C.St} (h : RefAt w B g s) : w.cell? ⟨g, 2, none⟩ = some (.bool s.2) := by
  obtain ⟨A, c, full, at_, hb, _⟩ := h
  have := cellAt hb 2
  simpa using this

set_option maxHeartbeats 6400000 in
theorem takes_mid (A0 : Option Addr) (c0 : Nat) (l : List UInt8) (A : Option Addr) (c : Nat) (fl : List Opn) (w : World) (hc0 : l.length ≤ c0) (hm0 : c0 ≤ maxLen) (hA0 : A0 = none → l = [] ∧ c0 = 0) (hr : Rd w w.heap.size A0 (bc l))
    (hc : fl.length ≤ c) (hm : c ≤ maxLen) (hf : OpsAt w w.heap.size A fl) :
    Calls Try.prog 14 #[.slice A0 l.length c0, .slice A fl.length c] w fun e w' => e = .returned (.bool true) ∧ Below w.heap.size w w' := by
  obtain ⟨n, hn⟩ : ∃ n, n = fl.length := ⟨_, rfl⟩
  have HN := Lib.hid hn
  rw [← hn] at hc ⊢
  clear hn
  unfold maxLen at hm
  by_cases hl : 1000 < l.length
  · go_enter Try.func14, Try.ntmps14
    go_wp2_with fail
    refine (c_awake _).mono ?_
    rintro e w1 ⟨rfl, hb1⟩
    go_wp2_with fail
    refine (c_awake _).mono ?_
    rintro e w2 ⟨rfl, hb2⟩
    go_wp2_with fail
    go_ret
    exact ⟨rfl, hb1.trans (hb2.mono hb1.size)⟩
  · by_cases hl5 : 50 < n
    · go_enter Try.func14, Try.ntmps14
      go_wp2_with fail
      refine (c_awake _).mono ?_
      rintro e w1 ⟨rfl, hb1⟩
      go_wp2_with fail
      refine (c_awake _).mono ?_
      rintro e w2 ⟨rfl, hb2⟩
      go_wp2_with fail
      go_ret
      exact ⟨rfl, hb1.trans (hb2.mono hb1.size)⟩
    · have hl1 : l.length ≤ 1000 := by omega
      have hn50 : n ≤ 50 := by omega
      go_enter Try.func14, Try.ntmps14
      go_wp2_with fail
      refine (c_awake _).mono ?_
      rintro e w1 ⟨rfl, hb1⟩
      go_wp2_with fail
      refine (new_any A0 c0 l w1 w.heap.size hc0 hm0 hA0 (hr.below hb1) hb1.size).mono ?_
      rintro e w2 ⟨rfl, hR, hb2⟩
      obtain ⟨g, hg⟩ : ∃ g, g = w1.heap.size := ⟨_, rfl⟩
      have hgs : w.heap.size ≤ g := by rw [hg]; exact hb1.size
      obtain ⟨A1, c1, hbk, _⟩ := id hR
      have hlt2 : g < w2.heap.size := by rw [hg]; exact ltAt hbk
      rw [← hg] at hR ⊢
      have hbel : Below w.heap.size w w2 := hb1.trans (hb2.mono hb1.size)
      have HRd := Lib.hid hR
      clear hb1 hb2 hbk hg hR
      go_wp2_with fail
      obtain ⟨h, hh⟩ : ∃ h, h = w2.heap.size := ⟨_, rfl⟩
      rw [← hh] at hlt2 ⊢
      obtain ⟨w3, hw3⟩ : ∃ w3, w3 = w2.alloc (.cells #[.slice A0 l.length c0, .int .i64 0, .bool false] 74) := ⟨_, rfl⟩
      rw [← hw3]
      have hbel3 : Below w.heap.size w w3 := by rw [hw3]; exact hbel.alloc hbel.size _
      have HR3 : Hid (RdrAt w3 w.heap.size g (l, false)) := by show RdrAt _ _ _ _; rw [hw3]; exact HRd.out.alloc _
      have hhs : w.heap.size ≤ h := by rw [hh]; exact hbel.size
      have hsz3 : h < w3.heap.size := by rw [hw3, hh]; simp
      have HF3 : Hid (RefAt w3 w.heap.size h (l, false)) := by
        show RefAt _ _ _ _
        refine ⟨A0, c0, l, 0, ?_, Nat.zero_le _, by omega, hc0, hr.below hbel3, hhs, by simp⟩
        rw [hw3, hh]; exact heap_alloc_new w2 _
      clear hw3 hh HRd hbel hr
      go_loopw [7] (fun i wr => ∃ (k : Nat) (s : C.St), k ≤ n ∧ i = .int .i64 (k : Int) ∧ Hid (RdrAt wr w.heap.size g s) ∧ Hid (RefAt wr w.heap.size h s) ∧ Below w.heap.size w wr ∧ h < wr.heap.size) (fun i _ => n - (intOf i).toNat)
      case atStart => exact ⟨0, _, Nat.zero_le _, rfl, HR3, HF3, hbel3, hsz3⟩
      case round =>
        obtain ⟨k, s, hk, rfl, HR, HF, hbel, hsz⟩ := hrel
        by_cases hlt : k < n
        · have hkl : k < fl.length := by rw [← HN.out]; exact hlt
          obtain ⟨b, off, rfl, hb, c0', c1⟩ := (hf.below hbel) k _ (List.getElem?_eq_getElem hkl)
          generalize fl[k] = f at *
          obtain ⟨tx, N⟩ := f
          simp only at c0' c1
          cases tx with
          | true =>
            obtain ⟨os, hos⟩ : ∃ os, os = C.text N s := ⟨_, rfl⟩
            have T1 : Hid (∀ W, RdrAt W w.heap.size g s → Calls Try.prog 48 #[.pointer (some ⟨g, 0, none⟩), .int .i64 N] W (TookT W w.heap.size g os.1 os.2)) := fun W h => by rw [hos]; exact text_any _ _ _ _ W h
            have T2 : Hid (∀ W, RefAt W w.heap.size h s → Calls Try.prog 51 #[.pointer (some ⟨h, 0, none⟩), .int .i64 N] W (RTookT W w.heap.size h os.1 os.2)) := fun W h => by rw [hos]; exact rtext_any _ _ _ _ W h
            clear hos
            obtain ⟨o, l', f'⟩ := os
            have hok : (!f') = f' ↔ False := by cases f' <;> simp
            go_wp2_with fail
            go_region_held3 (fun w' => w'.cell? ⟨b, off + k * 2 + 1, none⟩ = some (.int .i64 N)) (first | exact c1 | exact c1b | exact c1c) (first | (go_at_call 48; refine (T1.out _ (by exact HR.out)).mono ?_; rintro e w4 ⟨rfl, hR4, hg4⟩; have hg4' := grownFromDrew hg4; have c1b : w4.cell? ⟨b, off + k * 2 + 1, none⟩ = some (.int .i64 N) := (World.cell?_of_block (hg4'.block b (by omega) (by simp; omega))).trans c1) | (go_at_call 51; refine (T2.out _ (by exact RefAt.other HF.out hg4' (by omega) (by omega))).mono ?_; rintro e w5 ⟨rfl, hF5, hg5⟩; have c1c : w5.cell? ⟨b, off + k * 2 + 1, none⟩ = some (.int .i64 N) := (World.cell?_of_block (hg5.block b (Nat.lt_of_lt_of_le (by omega) hg4'.size) (by simp; omega))).trans c1b))
            have hR5 : RdrAt w5 w.heap.size g (l', f') := hR4.other hg5 (by omega) (by omega)
            have hbel5 : Below w.heap.size w w5 := (hbel.grown hg4' hbel.size (fun q hq => by injection hq with hq; omega)).grown hg5 (Nat.le_trans hbel.size hg4'.size) (fun q hq => by injection hq with hq; omega)
            have hsz5 : h < w5.heap.size := Nat.lt_of_lt_of_le hsz (Nat.le_trans hg4'.size hg5.size)
            have hFc : w5.cell? ⟨h, 2, none⟩ = some (.bool f') := hF5.cell
            have HR5 := Lib.hid hR5
            have HF5 := Lib.hid hF5
            clear T1 T2 HR HF hg4 hg4' hg5 c1b c1c hR4 hR5 hF5 hbel hsz c0' c1
            go_wp2_with fail
            cases f' with
            | false =>
              go_region_held3 (fun w' => w'.cell? ⟨h, 2, none⟩ = some (.bool false)) (first | exact hFc) (first | (go_at_call 53; refine (left_any _ _ _ _ (by exact HR5.out)).mono ?_; rintro e w' ⟨rfl, rfl⟩) | (go_at_call 54; refine (rleft_any _ _ _ _ (by exact HF5.out)).mono ?_; rintro e w' ⟨rfl, m1, rfl⟩) | (go_at_call 55; refine (ok_any _ _ _ _ (by exact HR5.out)).mono ?_; rintro e w' ⟨rfl, rfl⟩) | (go_at_call 50; refine (end_any _ _ _ _ (by exact HR5.out)).mono ?_; rintro e w' ⟨rfl, rfl⟩) | (go_at_call 56; refine (rend_any _ _ _ _ (by exact HF5.out)).mono ?_; rintro e w' ⟨rfl, m2, rfl⟩))
              go_wp2_with fail
              go_roundw
              case rel => exact ⟨k + 1, _, by omega, by go_num, HR5, HF5, belowDrewN hbel5 _, hsz5⟩
              case measure => simp [intOf]; omega
            | true =>
              go_region_held3 (fun w' => w'.cell? ⟨h, 2, none⟩ = some (.bool true)) (first | exact hFc) (first | (go_at_call 53; refine (left_any _ _ _ _ (by exact HR5.out)).mono ?_; rintro e w' ⟨rfl, rfl⟩) | (go_at_call 54; refine (rleft_any _ _ _ _ (by exact HF5.out)).mono ?_; rintro e w' ⟨rfl, m1, rfl⟩) | (go_at_call 55; refine (ok_any _ _ _ _ (by exact HR5.out)).mono ?_; rintro e w' ⟨rfl, rfl⟩) | (go_at_call 50; refine (end_any _ _ _ _ (by exact HR5.out)).mono ?_; rintro e w' ⟨rfl, rfl⟩) | (go_at_call 56; refine (rend_any _ _ _ _ (by exact HF5.out)).mono ?_; rintro e w' ⟨rfl, m2, rfl⟩))
              go_wp2_with fail
              go_roundw
              case rel => exact ⟨k + 1, _, by omega, by go_num, HR5, HF5, belowDrewN hbel5 _, hsz5⟩
              case measure => simp [intOf]; omega
          | false =>
            obtain ⟨os, hos⟩ : ∃ os, os = C.take N s := ⟨_, rfl⟩
            have T1 : Hid (∀ W, RdrAt W w.heap.size g s → Calls Try.prog 49 #[.pointer (some ⟨g, 0, none⟩), .int .i64 N] W (TookN W w.heap.size g os.1 os.2)) := fun W h => by rw [hos]; exact take_any _ _ _ _ W h
            have T2 : Hid (∀ W, RefAt W w.heap.size h s → Calls Try.prog 52 #[.pointer (some ⟨h, 0, none⟩), .int .i64 N] W (RTookN W w.heap.size h os.1 os.2)) := fun W h => by rw [hos]; exact rtake_any _ _ _ _ W h
            clear hos
            obtain ⟨o, l', f'⟩ := os
            have hok : (!f') = f' ↔ False := by cases f' <;> simp
            go_wp2_with fail
            go_region_held3 (fun w' => w'.cell? ⟨b, off + k * 2 + 1, none⟩ = some (.int .i64 N)) (first | exact c1 | exact c1b | exact c1c) (first | (go_at_call 49; refine (T1.out _ (by exact HR.out)).mono ?_; rintro e w4 ⟨rfl, hR4, hg4⟩; have hg4' := grownFromDrew hg4; have c1b : w4.cell? ⟨b, off + k * 2 + 1, none⟩ = some (.int .i64 N) := (World.cell?_of_block (hg4'.block b (by omega) (by simp; omega))).trans c1) | (go_at_call 52; refine (T2.out _ (by exact RefAt.other HF.out hg4' (by omega) (by omega))).mono ?_; rintro e w5 ⟨rfl, hF5, hg5⟩; have c1c : w5.cell? ⟨b, off + k * 2 + 1, none⟩ = some (.int .i64 N) := (World.cell?_of_block (hg5.block b (Nat.lt_of_lt_of_le (by omega) hg4'.size) (by simp; omega))).trans c1b))
            have hR5 : RdrAt w5 w.heap.size g (l', f') := hR4.other hg5 (by omega) (by omega)
            have hbel5 : Below w.heap.size w w5 := (hbel.grown hg4' hbel.size (fun q hq => by injection hq with hq; omega)).grown hg5 (Nat.le_trans hbel.size hg4'.size) (fun q hq => by injection hq with hq; omega)
            have hsz5 : h < w5.heap.size := Nat.lt_of_lt_of_le hsz (Nat.le_trans hg4'.size hg5.size)
            have hFc : w5.cell? ⟨h, 2, none⟩ = some (.bool f') := hF5.cell
            have HR5 := Lib.hid hR5
            have HF5 := Lib.hid hF5
            clear T1 T2 HR HF hg4 hg4' hg5 c1b c1c hR4 hR5 hF5 hbel hsz c0' c1
            go_wp2_with fail
            cases f' with
            | false =>
              go_region_held3 (fun w' => w'.cell? ⟨h, 2, none⟩ = some (.bool false)) (first | exact hFc) (first | (go_at_call 53; refine (left_any _ _ _ _ (by exact HR5.out)).mono ?_; rintro e w' ⟨rfl, rfl⟩) | (go_at_call 54; refine (rleft_any _ _ _ _ (by exact HF5.out)).mono ?_; rintro e w' ⟨rfl, m1, rfl⟩) | (go_at_call 55; refine (ok_any _ _ _ _ (by exact HR5.out)).mono ?_; rintro e w' ⟨rfl, rfl⟩) | (go_at_call 50; refine (end_any _ _ _ _ (by exact HR5.out)).mono ?_; rintro e w' ⟨rfl, rfl⟩) | (go_at_call 56; refine (rend_any _ _ _ _ (by exact HF5.out)).mono ?_; rintro e w' ⟨rfl, m2, rfl⟩))
              go_wp2_with fail
              go_roundw
              case rel => exact ⟨k + 1, _, by omega, by go_num, HR5, HF5, belowDrewN hbel5 _, hsz5⟩
              case measure => simp [intOf]; omega
            | true =>
              go_region_held3 (fun w' => w'.cell? ⟨h, 2, none⟩ = some (.bool true)) (first | exact hFc) (first | (go_at_call 53; refine (left_any _ _ _ _ (by exact HR5.out)).mono ?_; rintro e w' ⟨rfl, rfl⟩) | (go_at_call 54; refine (rleft_any _ _ _ _ (by exact HF5.out)).mono ?_; rintro e w' ⟨rfl, m1, rfl⟩) | (go_at_call 55; refine (ok_any _ _ _ _ (by exact HR5.out)).mono ?_; rintro e w' ⟨rfl, rfl⟩) | (go_at_call 50; refine (end_any _ _ _ _ (by exact HR5.out)).mono ?_; rintro e w' ⟨rfl, rfl⟩) | (go_at_call 56; refine (rend_any _ _ _ _ (by exact HF5.out)).mono ?_; rintro e w' ⟨rfl, m2, rfl⟩))
              go_wp2_with fail
              go_roundw
              case rel => exact ⟨k + 1, _, by omega, by go_num, HR5, HF5, belowDrewN hbel5 _, hsz5⟩
              case measure => simp [intOf]; omega
        · obtain rfl : k = n := by omega
          go_wp2_with fail
          go_ret
          exact ⟨rfl, hbel⟩

theorem codeTakes_walk (W : World) (v0 v1 : Value) (h0 : Arg W 45 v0) (h1 : Arg W 71 v1) :
    Calls Try.prog 14 #[v0, v1] W fun e W' => e = .returned (.bool true) ∧ Below W.heap.size W W' := by
  obtain ⟨A0, c0, l, rfl, hc0, hm0, hA0, hr⟩ := h0.bytes Try.underlying45
  obtain ⟨A, c, fl, rfl, hc, hm, hf⟩ := h1.ops
  exact takes_mid A0 c0 l A c fl W hc0 hm0 hA0 hr hc hm hf
end Go.Proofs.Ytfpblaggnehnoaa
