/- The walks of Put and Take of ballots, and of the reference's. Conditions: a round is a uint32; the bytes lie below. -/
import Derived.Test.YtfpblaggnehnoaaBallotMostW
import Derived.Test.YtfpblaggnehnoaaRefReads
import Derived.Test.YtfpblaggnehnoaaCodeTakes
import Derived.Test.YtfpblaggnehnoaaCodePuts
namespace Go.Proofs.Ytfpblaggnehnoaa
open Go.RowKit
set_option linter.unusedSimpArgs false
set_option linter.unusedVariables false

abbrev Bl2 := Nat × Nat
/-- a ballot's bytes behind bytes -/
def B.put (l : List UInt8) (r : Nat) (n : Int) : List UInt8 := C.put (C.put l r 4) (n % 18446744073709551616).toNat 1

set_option maxHeartbeats 1600000 in
theorem bput_any (A : Option Addr) (c : Nat) (l : List UInt8) (r : Nat) (n : Int) (w : World) (B0 : Nat) (hl : l.length ≤ 274877906944) (hA : A = none → l = [] ∧ c = 0) (hr : Rd w B0 A (bc l)) (hB : B0 ≤ w.heap.size) (hx : r < 4294967296) :
    Calls Try.prog 59 #[.slice A l.length c, bal r n] w (MadeB w (B.put l r n)) := by
  obtain ⟨m, hm⟩ : ∃ m : Nat, m = (n % 18446744073709551616).toNat := ⟨_, rfl⟩
  have HM : Hid (IntKind.u64.wrap n = (m : Int)) := by
    show _ = _
    have e : IntKind.u64.wrap n = n % 18446744073709551616 := rfl
    rw [e]; omega
  have HW : Hid (IntKind.u64.wrap (r : Int) = (r : Int)) := by
    show _ = _
    have e : IntKind.u64.wrap (r : Int) = (r : Int) % 18446744073709551616 := rfl
    rw [e]; omega
  have hm64 : m < 18446744073709551616 := by omega
  have HP : Hid (B.put l r n = C.put (C.put l r 4) m 1) := by show _ = _; unfold B.put; rw [hm]
  have hlen : (C.put l r 4).length ≤ 549755813888 := by unfold C.put; rw [List.length_append, C.be_len]; have := C.clamp8_le 4; omega
  clear hm
  rw [HP.out]
  go_enter Try.func59, Try.ntmps59
  go_upto_region 1 with fail
  obtain ⟨w1, hw1⟩ : ∃ w1, w1 = w.alloc (.cells #[.int .u32 (r : Int), .int .i64 n] 27) := ⟨_, rfl⟩
  rw [← hw1]
  have k : w1.cell? ⟨w.heap.size, 0, none⟩ = some (.int .u32 (r : Int)) ∧ w1.cell? ⟨w.heap.size, 1, none⟩ = some (.int .i64 n) := by
    rw [hw1]; exact ⟨by simp, by simp⟩
  have b : Below w.heap.size w w1 := by rw [hw1]; exact (Below.refl _ _).alloc (Nat.le_refl _) _
  have hr1 : Rd w1 B0 A (bc l) := hr.belowM b hB
  have hB1 : B0 ≤ w1.heap.size := Nat.le_trans hB b.size
  clear hw1
  go_region_held3 (fun w' => w'.cell? ⟨w.heap.size, 0, none⟩ = some (.int .u32 (r : Int)) ∧ w'.cell? ⟨w.heap.size, 1, none⟩ = some (.int .i64 n)) (exact k) (first | (go_at_call 27; rw [HM.out]; refine (put_any A2 c2 (C.put l r 4) m 1 _ _ hlen hA2 (Rd.ofOwn o2) (by exact Nat.le_refl _) hm64).mono ?_; rintro e w3 ⟨v3, rfl, o3, g3⟩; have b3 := b2.trans (g3.mono b2.size); have k := And.intro (cellB g3 k.1) (cellB g3 k.2)) | (go_at_call 27; rw [HW.out]; refine (put_any A c l r 4 _ B0 (by omega) hA (Rd.drew hr1) hB1 (by omega)).mono ?_; rintro e w2 ⟨v2, rfl, o2, g2⟩; have g2 := belowOfDrew g2; have b2 := b.trans (g2.mono b.size); have k := And.intro (cellB g2 k.1) (cellB g2 k.2); obtain ⟨A2, c2, rfl, hc2, hA2', _⟩ := ownShape o2; have hA2 : A2 = none → C.put l r 4 = [] ∧ c2 = 0 := fun h => ⟨List.eq_nil_of_length_eq_zero (hA2' h).1, (hA2' h).2⟩))
  all_goals
    go_wp2_with fail
    go_ret
    exact ⟨_, rfl, ownMore o3 b2.size, b3⟩

theorem put_one (l : List UInt8) (x : Nat) : C.put l x 1 = l ++ [UInt8.ofNat x] := by
  show l ++ C.be x 1 = _
  simp [C.be]

set_option maxHeartbeats 1600000 in
theorem rbput_any (A : Option Addr) (c : Nat) (l : List UInt8) (r : Nat) (n : Int) (w : World) (B0 : Nat) (hl : l.length ≤ 274877906944) (hA : A = none → l = [] ∧ c = 0) (hr : Rd w B0 A (bc l)) (hB : B0 ≤ w.heap.size) (hx : r < 4294967296) :
    Calls Try.prog 60 #[.slice A l.length c, bal r n] w (MadeB w (B.put l r n)) := by
  obtain ⟨i0, hi, hz0, hz1, hz2⟩ := info_parts info_u8
  obtain ⟨m, hm⟩ : ∃ m : Nat, m = (n % 18446744073709551616).toNat := ⟨_, rfl⟩
  have HM : Hid (n % 256 = ((UInt8.ofNat m).toNat : Int)) := by
    show _ = _
    rw [UInt8.toNat_ofNat', show (2 : Nat) ^ 8 = 256 from rfl]
    omega
  obtain ⟨bb, hbb⟩ : ∃ bb, bb = UInt8.ofNat m := ⟨_, rfl⟩
  have hw8 : IntKind.u8.wrap n = (bb.toNat : Int) := by
    have e : IntKind.u8.wrap n = n % 256 := rfl
    rw [e, hbb]; exact HM.out
  have hw64 : IntKind.u64.wrap (r : Int) = (r : Int) := by
    have e : IntKind.u64.wrap (r : Int) = (r : Int) % 18446744073709551616 := rfl
    rw [e]; omega
  have HW64 := Lib.hid hw64
  have HP : Hid (B.put l r n = C.put l r 4 ++ [bb]) := by show _ = _; unfold B.put; rw [← hm, put_one, hbb]
  have hlen : (C.put l r 4).length ≤ 549755813888 := by unfold C.put; rw [List.length_append, C.be_len]; have := C.clamp8_le 4; omega
  clear hm hw64 hbb HM
  rw [HP.out]
  go_enter Try.func60, Try.ntmps60
  go_wp2_with fail
  have b1 : Below w.heap.size w (w.alloc (.cells #[.int .u32 (r : Int), .int .i64 n] 28)) := (Below.refl _ _).alloc (Nat.le_refl _) _
  first | rw [HW64.out] | skip
  refine (rput_any A c l r 4 _ B0 (by omega) hA (hr.belowM b1 hB) (by simp; omega) (by omega) (by omega) (by omega)).mono ?_
  rintro e w2 ⟨v2, rfl, o2, g2⟩
  have d1 : w2.cell? ⟨w.heap.size, 1, none⟩ = some (.int .i64 n) := cellB g2 (by simp)
  have b2 := b1.trans (g2.mono b1.size)
  have o2 := ownMore o2 b1.size
  clear g2
  go_wp2_with (at_builtin; refine wpList_append_own _ rfl _ _ 45 rfl w.heap.size 5 i0 (.int .u8 0) 1 1 Try.underlying45 hi hz0 hz1 hz2 rfl (by decide) _ _ _ rfl (o2.alloc _) ⟨w2.heap.size, 0, none⟩ 1 1 [.int .u8 (bb.toNat : Int)] rfl rfl ?c1 ?c2 ?c3 ?c4 ?c5 ?_)
  case c1 => exact oneAt _ _ _
  case c2 => intro u hu; simp at hu; subst hu; rfl
  case c3 => unfold maxLen; omega
  case c4 => omega
  case c5 => have := b2.size; simp; omega
  intro v' w3 hown' hgrow _
  have R := appB o2 b2 hown' hgrow
  clear hown' hgrow
  go_wp2
  go_ret
  exact ⟨_, rfl, R.1, R.2⟩

/-! ### reading -/
theorem take_lt (k : Nat) (s : C.St) (hk : k ≤ 8) : (C.take (k : Int) s).1 < 256 ^ k := by
  unfold C.take
  rw [if_neg (by omega)]
  have h1 := C.val_lt (C.some_ k s).1
  have h2 : (C.some_ k s).1.length ≤ k := by unfold C.some_; split <;> simp; omega
  have h3 : 256 ^ (C.some_ k s).1.length ≤ 256 ^ k := Nat.pow_le_pow_right (by omega) h2
  rw [Int.toNat_natCast]
  show C.val 0 (C.some_ k s).1 < _
  omega
theorem take9 (s : C.St) : C.take 9 s = (0, (s.1, true)) := by unfold C.take; simp
theorem heapG {w w' : World} {k g : Nat} {o : Obj} (h : w.heap[k]? = some o) (hg : w.grownBy w' (some g)) (hne : k ≠ g) : w'.heap[k]? = some o := (hg.block k (ltAt h) (fun e => hne (by injection e))).trans h
theorem grownTrans {a b c : World} {r : Option Nat} (h : a.grownBy b r) (k : b.grownBy c r) : a.grownBy c r :=
  ⟨k.os.trans h.os, k.tape.trans h.tape, k.output.trans h.output, Nat.le_trans h.size k.size, fun i hi hne => (k.block i (Nat.lt_of_lt_of_le hi h.size) hne).trans (h.block i hi hne)⟩
theorem grownSetNew {a b : World} {r : Option Nat} {g : Nat} (h : a.grownBy b r) (hb : a.heap.size ≤ g) (i : Nat) (u : Value) : a.grownBy (b.setCell ⟨g, i, none⟩ u) r :=
  have k := grownSet b g i u
  ⟨k.os.trans h.os, k.tape.trans h.tape, k.output.trans h.output, Nat.le_trans h.size k.size, fun j hj hne => (k.block j (Nat.lt_of_lt_of_le hj h.size) (fun e => by injection e with e; omega)).trans (h.block j hj hne)⟩
theorem grownAllocR {a b : World} {r : Option Nat} (h : a.grownBy b r) (o : Obj) : a.grownBy (b.alloc o) r := grownTrans h (World.grownBy_alloc b o r)
theorem grownBelow {a b c : World} {r : Option Nat} (h : a.grownBy b r) (k : Below b.heap.size b c) : a.grownBy c r :=
  ⟨k.os.trans h.os, k.tape.trans h.tape, k.output.trans h.output, Nat.le_trans h.size k.size, fun i hi hne => (k.block i (Nat.lt_of_lt_of_le hi h.size)).trans (h.block i hi hne)⟩
theorem RdrAt.below {w w' : World} {B g : Nat} {s : C.St} (h : RdrAt w B g s) (hb : Below w.heap.size w w') : RdrAt w' B g s := by
  obtain ⟨A, c, hb0, h1, h2, h3, hr, h4⟩ := h
  exact ⟨A, c, heapB hb0 hb, h1, h2, h3, hr.below (hb.mono (by have := ltAt hb0; omega)), h4⟩
theorem RdrAt.setNew {w : World} {B g k : Nat} {s : C.St} (h : RdrAt w B g s) (hk : k ≠ g) (hB : B ≤ k) (i : Nat) (u : Value) : RdrAt (w.setCell ⟨k, i, none⟩ u) B g s := h.other (grownSet w k i u) hk hB

def B.take (s : C.St) : Bl2 × C.St :=
  if (C.take 1 (C.take 4 s).2).2.2 = true ∨ B.formed ((C.take 1 (C.take 4 s).2).1 : Int) = false then ((0, 0), ((C.take 1 (C.take 4 s).2).2.1, true)) else (((C.take 4 s).1, (C.take 1 (C.take 4 s).2).1), (C.take 1 (C.take 4 s).2).2)

set_option maxHeartbeats 1600000 in
theorem btake_any (B0 g : Nat) (s : C.St) (w : World) (h : RdrAt w B0 g s) :
    Calls Try.prog 57 #[.pointer (some ⟨g, 0, none⟩)] w fun e w' => e = .returned (bal (B.take s).1.1 (B.take s).1.2) ∧ RdrAt w' B0 g (B.take s).2 ∧ w.grownBy w' (some g) := by
  have l1 := take_lt 4 s (by omega)
  have l2 := take_lt 1 (C.take 4 s).2 (by omega)
  have HT : Hid (B.take s = if (C.take 1 (C.take 4 s).2).2.2 = true ∨ B.formed ((C.take 1 (C.take 4 s).2).1 : Int) = false then ((0, 0), ((C.take 1 (C.take 4 s).2).2.1, true)) else (((C.take 4 s).1, (C.take 1 (C.take 4 s).2).1), (C.take 1 (C.take 4 s).2).2)) := rfl
  have T4 := take_any B0 g 4 s _ (h.alloc (.cells #[.int .u32 0, .int .i64 0] 27))
  have hlt : g < w.heap.size := by obtain ⟨_, _, hb, _⟩ := h; exact ltAt hb
  have T1 := fun w1 => take_any B0 g 1 (C.take 4 s).2 w1
  generalize C.take 4 s = t1 at *
  obtain ⟨x1, s1⟩ := t1
  simp only at *
  generalize C.take 1 s1 = t2 at *
  obtain ⟨x2, l2', f2⟩ := t2
  simp only at *
  have l1 : x1 < 4294967296 := l1
  have l2 : x2 < 256 := l2
  have HW1 : Hid (IntKind.u32.wrap (x1 : Int) = (x1 : Int)) := by
    show _ = _
    have e : IntKind.u32.wrap (x1 : Int) = (x1 : Int) % 4294967296 := rfl
    rw [e]; omega
  have HW2 : Hid (IntKind.i64.wrap (x2 : Int) = (x2 : Int)) := by show _ = _; rw [IntKind.wrap_i64]; omega
  go_enter Try.func57, Try.ntmps57
  go_wp2_with fail
  refine T4.mono ?_
  rintro e w1 ⟨rfl, h1, g1⟩
  go_wp2_with fail
  refine (T1 _ h1).mono ?_
  rintro e w2 ⟨rfl, h2, g2⟩
  have hB : B0 ≤ w.heap.size := by obtain ⟨_, _, _, _, _, _, _, hB⟩ := h; omega
  have hne : w.heap.size ≠ g := by omega
  have Z1 := heapG (heap_alloc_new w _) g1 hne
  have Z2 := heapG Z1 g2 hne
  have G2 := grownTrans (grownTrans (World.grownBy_alloc w _ (some g)) g1) g2
  have hs2 : w.heap.size + 1 ≤ w2.heap.size := by have a := g1.size; have b := g2.size; simp at a; omega
  clear g1 g2 T1 T4 Z1 h1
  go_wp2_with fail
  have h3 := h2.alloc (.cells #[.int .u32 (IntKind.u32.wrap (x1 : Int)), .int .i64 (IntKind.i64.wrap (x2 : Int))] 27)
  have Z3 := heapA Z2 (.cells #[.int .u32 (IntKind.u32.wrap (x1 : Int)), .int .i64 (IntKind.i64.wrap (x2 : Int))] 27)
  have G3 := grownAllocR G2 (.cells #[.int .u32 (IntKind.u32.wrap (x1 : Int)), .int .i64 (IntKind.i64.wrap (x2 : Int))] 27)
  rw [HW1.out, HW2.out] at h3 Z3 G3
  clear Z2 G2 h2
  have z0 := cellAt Z3 0
  have z1 := cellAt Z3 1
  have y0 := freeAt Z3 0
  have y1 := freeAt Z3 1
  refine (ok_any B0 g _ _ h3).mono ?_
  rintro e w3 ⟨rfl, hw3⟩
  rw [← hw3]
  have hzne : w.heap.size < w2.heap.size := by omega
  cases f2 with
  | true =>
    have HT2 : Hid (B.take s = ((0, 0), (l2', true))) := by have := HT.out; rw [if_pos (Or.inl rfl)] at this; exact this
    clear HT hw3
    go_wp2_with fail
    refine (take_any B0 g 9 _ _ h3).mono ?_
    rw [take9]
    rintro e w4 ⟨rfl, h4, g4⟩
    have Z4 := heapG Z3 g4 hne
    have G4 := grownTrans G3 g4
    have a0 := cellAt Z4 0
    have a1 := cellAt Z4 1
    have c0 := freeAt Z4 0
    have c1 := freeAt Z4 1
    have Z5 := setAt (setAt Z4 0 (.int .u32 0)) 1 (.int .i64 0)
    have r0 := cellAt Z5 0
    have r1 := cellAt Z5 1
    simp only [List.getElem?_toArray, List.getElem?_cons_zero, List.getElem?_cons_succ] at a0 a1
    simp at r0 r1
    go_wp2_with fail
    refine bodyPost_ret (v := bal 0 (0 : Nat)) (by simp [results, Try.results57, go_sem, r0, r1]) rfl ⟨by rw [HT2.out], by rw [HT2.out]; exact (h4.setNew hne hB _ _).setNew hne hB _ _, grownSetNew (grownSetNew G4 (Nat.le_refl _) _ _) (Nat.le_refl _) _ _⟩
  | false =>
    cases hf : B.formed (x2 : Int) with
    | false =>
      have HT2 : Hid (B.take s = ((0, 0), (l2', true))) := by have := HT.out; rw [if_pos (Or.inr hf)] at this; exact this
      have HF := Lib.hid hf
      clear HT hw3 hf
      have q0 : (w2.alloc (.cells #[.int .u32 (x1 : Int), .int .i64 (x2 : Int)] 27)).cell? ⟨w2.heap.size, 0, none⟩ = some (.int .u32 (x1 : Int)) := by simp
      have q1 : (w2.alloc (.cells #[.int .u32 (x1 : Int), .int .i64 (x2 : Int)] 27)).cell? ⟨w2.heap.size, 1, none⟩ = some (.int .i64 (x2 : Int)) := by simp
      go_wp2_with fail
      refine (formed_any x1 x2 _).mono ?_
      rw [HF.out]
      rintro e w5 ⟨rfl, b5⟩
      have h5 := h3.below b5
      have Z5 := heapB Z3 b5
      have G5 := grownBelow G3 b5
      go_wp2_with fail
      refine (take_any B0 g 9 _ _ h5).mono ?_
      rw [take9]
      rintro e w4 ⟨rfl, h4, g4⟩
      have Z4 := heapG Z5 g4 hne
      have G4 := grownTrans G5 g4
      have a0 := cellAt Z4 0
      have a1 := cellAt Z4 1
      have c0 := freeAt Z4 0
      have c1 := freeAt Z4 1
      have Z6 := setAt (setAt Z4 0 (.int .u32 0)) 1 (.int .i64 0)
      have r0 := cellAt Z6 0
      have r1 := cellAt Z6 1
      simp only [List.getElem?_toArray, List.getElem?_cons_zero, List.getElem?_cons_succ] at a0 a1
      simp at r0 r1
      go_wp2_with fail
      refine bodyPost_ret (v := bal 0 (0 : Nat)) (by simp [results, Try.results57, go_sem, r0, r1]) rfl ⟨by rw [HT2.out], by rw [HT2.out]; exact (h4.setNew hne hB _ _).setNew hne hB _ _, grownSetNew (grownSetNew G4 (Nat.le_refl _) _ _) (Nat.le_refl _) _ _⟩
    | true =>
      have HT2 : Hid (B.take s = ((x1, x2), (l2', false))) := by have := HT.out; rw [if_neg (by simp [hf])] at this; exact this
      have HF := Lib.hid hf
      clear HT hw3 hf
      have q0 : (w2.alloc (.cells #[.int .u32 (x1 : Int), .int .i64 (x2 : Int)] 27)).cell? ⟨w2.heap.size, 0, none⟩ = some (.int .u32 (x1 : Int)) := by simp
      have q1 : (w2.alloc (.cells #[.int .u32 (x1 : Int), .int .i64 (x2 : Int)] 27)).cell? ⟨w2.heap.size, 1, none⟩ = some (.int .i64 (x2 : Int)) := by simp
      go_wp2_with fail
      refine (formed_any x1 x2 _).mono ?_
      rw [HF.out]
      rintro e w5 ⟨rfl, b5⟩
      have h5 := h3.below b5
      have Z5 := heapB Z3 b5
      have G5 := grownBelow G3 b5
      have q0 := cellB b5 q0
      have q1 := cellB b5 q1
      have a0 := cellAt Z5 0
      have a1 := cellAt Z5 1
      have c0 := freeAt Z5 0
      have c1 := freeAt Z5 1
      have Z6 := setAt (setAt Z5 0 (.int .u32 (x1 : Int))) 1 (.int .i64 (x2 : Int))
      have r0 := cellAt Z6 0
      have r1 := cellAt Z6 1
      simp only [List.getElem?_toArray, List.getElem?_cons_zero, List.getElem?_cons_succ] at a0 a1
      simp at r0 r1
      go_wp2_with fail
      refine bodyPost_ret (v := bal x1 x2) (by simp [results, Try.results57, go_sem, r0, r1]) rfl ⟨by rw [HT2.out], by rw [HT2.out]; exact (h5.setNew hne hB _ _).setNew hne hB _ _, grownSetNew (grownSetNew G5 (Nat.le_refl _) _ _) (Nat.le_refl _) _ _⟩

/-! ### the reference's -/
theorem RefAt.below {w w' : World} {B g : Nat} {s : C.St} (h : RefAt w B g s) (hb : Below w.heap.size w w') : RefAt w' B g s := by
  obtain ⟨A, c, full, at_, hb0, h1, h2, h3, hr, h4, h5⟩ := h
  exact ⟨A, c, full, at_, heapB hb0 hb, h1, h2, h3, hr.below (hb.mono (by have := ltAt hb0; omega)), h4, h5⟩
theorem RefAt.alloc {w : World} {B g : Nat} {s : C.St} (h : RefAt w B g s) (o : Obj) : RefAt (w.alloc o) B g s := h.below ((Below.refl _ _).alloc (Nat.le_refl _) _)
theorem RefAt.setNew {w : World} {B g k : Nat} {s : C.St} (h : RefAt w B g s) (hk : k ≠ g) (hB : B ≤ k) (i : Nat) (u : Value) : RefAt (w.setCell ⟨k, i, none⟩ u) B g s := h.other (grownSet w k i u) hk hB
theorem RefAt.lt {w : World} {B g : Nat} {s : C.St} (h : RefAt w B g s) : g < w.heap.size ∧ B ≤ g := by
  obtain ⟨A, c, full, at_, hb0, h1, h2, h3, hr, h4, h5⟩ := h
  exact ⟨ltAt hb0, h4⟩
theorem RefAt.free {w : World} {B g : Nat} {s : C.St} (h : RefAt w B g s) : w.frozen? ⟨g, 2, none⟩ = false := by
  obtain ⟨A, c, full, at_, hb0, _⟩ := h
  exact freeAt hb0 2

set_option maxHeartbeats 1600000 in
theorem rbtake_any (B0 g : Nat) (s : C.St) (w : World) (h : RefAt w B0 g s) :
    Calls Try.prog 58 #[.pointer (some ⟨g, 0, none⟩)] w fun e w' => e = .returned (bal (B.take s).1.1 (B.take s).1.2) ∧ RefAt w' B0 g (B.take s).2 ∧ w.grownBy w' (some g) := by
  have l1 := take_lt 4 s (by omega)
  have l2 := take_lt 1 (C.take 4 s).2 (by omega)
  have HT : Hid (B.take s = if (C.take 1 (C.take 4 s).2).2.2 = true ∨ B.formed ((C.take 1 (C.take 4 s).2).1 : Int) = false then ((0, 0), ((C.take 1 (C.take 4 s).2).2.1, true)) else (((C.take 4 s).1, (C.take 1 (C.take 4 s).2).1), (C.take 1 (C.take 4 s).2).2)) := rfl
  have T4 := rtake_any B0 g 4 s _ (h.alloc (.cells #[.int .u32 0, .int .i64 0] 28))
  obtain ⟨hlt, hB'⟩ := h.lt
  have T1 := fun w1 => rtake_any B0 g 1 (C.take 4 s).2 w1
  generalize C.take 4 s = t1 at *
  obtain ⟨x1, s1⟩ := t1
  simp only at *
  generalize C.take 1 s1 = t2 at *
  obtain ⟨x2, l2', f2⟩ := t2
  simp only at *
  have l1 : x1 < 4294967296 := l1
  have l2 : x2 < 256 := l2
  have HW1 : Hid (IntKind.u32.wrap (x1 : Int) = (x1 : Int)) := by
    show _ = _
    have e : IntKind.u32.wrap (x1 : Int) = (x1 : Int) % 4294967296 := rfl
    rw [e]; omega
  have HW2 : Hid (IntKind.i64.wrap (x2 : Int) = (x2 : Int)) := by show _ = _; rw [IntKind.wrap_i64]; omega
  go_enter Try.func58, Try.ntmps58
  go_wp2_with fail
  refine T4.mono ?_
  rintro e w1 ⟨rfl, h1, g1⟩
  go_wp2_with fail
  refine (T1 _ h1).mono ?_
  rintro e w2 ⟨rfl, h2, g2⟩
  have hB : B0 ≤ w.heap.size := by omega
  have hne : w.heap.size ≠ g := by omega
  have Z1 := heapG (heap_alloc_new w _) g1 hne
  have Z2 := heapG Z1 g2 hne
  have G2 := grownTrans (grownTrans (World.grownBy_alloc w _ (some g)) g1) g2
  have hs2 : w.heap.size + 1 ≤ w2.heap.size := by have a := g1.size; have b := g2.size; simp at a; omega
  clear g1 g2 T1 T4 Z1 h1
  have h3 := h2.alloc (.cells #[.int .u32 (x1 : Int), .int .i64 (x2 : Int)] 28)
  have Z3 := heapA Z2 (.cells #[.int .u32 (x1 : Int), .int .i64 (x2 : Int)] 28)
  have G3 := grownAllocR G2 (.cells #[.int .u32 (x1 : Int), .int .i64 (x2 : Int)] 28)
  have hzne : w.heap.size < w2.heap.size := by omega
  have hg2 : g < w2.heap.size := h2.lt.1
  have p0 := h2.cell
  have p1 := h2.free
  simp only at p0
  cases f2 with
  | true =>
    have HT2 : Hid (B.take s = ((0, 0), (l2', true))) := by have := HT.out; rw [if_pos (Or.inl rfl)] at this; exact this
    clear HT
    have h4 := h2.fails.alloc (.cells #[.int .u32 (x1 : Int), .int .i64 (x2 : Int)] 28)
    have Z4 := heapA (heapG Z2 (grownSet w2 g 2 (.bool true)) hne) (.cells #[.int .u32 (x1 : Int), .int .i64 (x2 : Int)] 28)
    have G4 := grownAllocR (grownTrans G2 (grownSet w2 g 2 (.bool true))) (.cells #[.int .u32 (x1 : Int), .int .i64 (x2 : Int)] 28)
    go_upto_region 5 with fail
    generalize (w2.setCell ⟨g, 2, none⟩ (.bool true)).alloc (.cells #[.int .u32 (x1 : Int), .int .i64 (x2 : Int)] 28) = w4 at h4 Z4 G4 ⊢
    have a0 := cellAt Z4 0
    have a1 := cellAt Z4 1
    have c0 := freeAt Z4 0
    have c1 := freeAt Z4 1
    have Z5 := setAt (setAt Z4 0 (.int .u32 0)) 1 (.int .i64 0)
    have r0 := cellAt Z5 0
    have r1 := cellAt Z5 1
    simp only [List.getElem?_toArray, List.getElem?_cons_zero, List.getElem?_cons_succ] at a0 a1
    simp at r0 r1
    go_wp2_with fail
    refine bodyPost_ret (v := bal 0 (0 : Nat)) (by simp [results, Try.results58, go_sem, r0, r1]) rfl ⟨by rw [HT2.out], by rw [HT2.out]; exact (h4.setNew hne hB _ _).setNew hne hB _ _, grownSetNew (grownSetNew G4 (Nat.le_refl _) _ _) (Nat.le_refl _) _ _⟩
  | false =>
    have q0 : (w2.alloc (.cells #[.int .u32 (x1 : Int), .int .i64 (x2 : Int)] 28)).cell? ⟨w2.heap.size, 0, none⟩ = some (.int .u32 (x1 : Int)) := by simp
    have q1 : (w2.alloc (.cells #[.int .u32 (x1 : Int), .int .i64 (x2 : Int)] 28)).cell? ⟨w2.heap.size, 1, none⟩ = some (.int .i64 (x2 : Int)) := by simp
    cases hf : B.formed (x2 : Int) with
    | false =>
      have HT2 : Hid (B.take s = ((0, 0), (l2', true))) := by have := HT.out; rw [if_pos (Or.inr hf)] at this; exact this
      have HF := Lib.hid hf
      clear HT hf
      go_wp2_with fail
      refine (rformed_any x1 x2 _).mono ?_
      rw [HF.out]
      rintro e w5 ⟨rfl, b5⟩
      have h5 := h3.below b5
      have Z5 := heapB Z3 b5
      have G5 := grownBelow G3 b5
      have q2 := h5.cell
      have q3 := h5.free
      simp only at q2
      have h4 := h5.fails
      have g4 := grownSet w5 g 2 (.bool true)
      have Z4 := heapG Z5 g4 hne
      have G4 := grownTrans G5 g4
      go_upto_region 5 with fail
      generalize w5.setCell ⟨g, 2, none⟩ (.bool true) = w4 at h4 Z4 G4 ⊢
      clear g4 Z5 q2 q3
      have a0 := cellAt Z4 0
      have a1 := cellAt Z4 1
      have c0 := freeAt Z4 0
      have c1 := freeAt Z4 1
      have Z5 := setAt (setAt Z4 0 (.int .u32 0)) 1 (.int .i64 0)
      have r0 := cellAt Z5 0
      have r1 := cellAt Z5 1
      simp only [List.getElem?_toArray, List.getElem?_cons_zero, List.getElem?_cons_succ] at a0 a1
      simp at r0 r1
      go_wp2_with fail
      refine bodyPost_ret (v := bal 0 (0 : Nat)) (by simp [results, Try.results58, go_sem, r0, r1]) rfl ⟨by rw [HT2.out], by rw [HT2.out]; exact (h4.setNew hne hB _ _).setNew hne hB _ _, grownSetNew (grownSetNew G4 (Nat.le_refl _) _ _) (Nat.le_refl _) _ _⟩
    | true =>
      have HT2 : Hid (B.take s = ((x1, x2), (l2', false))) := by have := HT.out; rw [if_neg (by simp [hf])] at this; exact this
      have HF := Lib.hid hf
      clear HT hf
      go_wp2_with fail
      refine (rformed_any x1 x2 _).mono ?_
      rw [HF.out]
      rintro e w5 ⟨rfl, b5⟩
      have h5 := h3.below b5
      have Z5 := heapB Z3 b5
      have G5 := grownBelow G3 b5
      have q0 := cellB b5 q0
      have q1 := cellB b5 q1
      have a0 := cellAt Z5 0
      have a1 := cellAt Z5 1
      have c0 := freeAt Z5 0
      have c1 := freeAt Z5 1
      have Z6 := setAt (setAt Z5 0 (.int .u32 (x1 : Int))) 1 (.int .i64 (x2 : Int))
      have r0 := cellAt Z6 0
      have r1 := cellAt Z6 1
      simp only [List.getElem?_toArray, List.getElem?_cons_zero, List.getElem?_cons_succ] at a0 a1
      simp at r0 r1
      go_wp2_with fail
      refine bodyPost_ret (v := bal x1 x2) (by simp [results, Try.results58, go_sem, r0, r1]) rfl ⟨by rw [HT2.out], by rw [HT2.out]; exact (h5.setNew hne hB _ _).setNew hne hB _ _, grownSetNew (grownSetNew G5 (Nat.le_refl _) _ _) (Nat.le_refl _) _ _⟩
end Go.Proofs.Ytfpblaggnehnoaa
