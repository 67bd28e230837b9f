/- Plain laws on the sum of bytes (a cyclic code of 32 bits): it is linear, a step has an inverse, and a burst of up to four bytes turns it. No program, no condition. -/
import Derived.Test.YtjofjpmhokjhnaaDoorWlM7
namespace Go.Proofs.YtjofjpmhokjhnaaDoor
set_option maxRecDepth 20000
open Go.RowKit
set_option linter.unusedSimpArgs false
set_option linter.unusedVariables false

/-- what a cut leaves: a new disk, and the old one without power -/
def CutP (w : World) (base g : Nat) (bv rv : Value) (d : Dk) (n : Int) (e : Ending) (w' : World) : Prop :=
  ∃ g2 bv2, e = .returned (.pointer (some ⟨g2, 0, none⟩)) ∧ w.heap.size ≤ g2 ∧ DkAt w' w.heap.size g2 bv2 (.slice none 0 0) (D.cut d n) ∧ DkAt w' base g bv rv { d with down := true } ∧ w.grownBy w' (some g)

theorem World.grownBy.below' {w w' : World} (h : Below w.heap.size w w') (o : Option Nat) : w.grownBy w' o := ⟨h.os, h.tape, h.output, h.size, fun k hk _ => h.block k hk⟩
theorem SlF.first' {w : World} {B k : Nat} {A : Option Addr} {n c : Nat} {l : List UInt8} (h : SlF w B (.slice A n c) l) (hk : k ≤ n) : SlF w B (.slice A k c) (l.take k) := by
  obtain ⟨A', c', e, h1, h2, h3, h4⟩ := h
  injection e with e1 e2 e3
  subst e1; subst e2; subst e3
  have hl : (l.take k).length = k := by rw [List.length_take]; omega
  refine ⟨A, c, by rw [hl], by rw [hl]; omega, h2, fun h => ?_, by rw [← bc_take]; exact h4.take k⟩
  obtain ⟨rfl, rfl⟩ := h3 h
  simp

/-- the end of a cut: the new disk's bytes are laid -/
theorem cut_end {w w1 w2 w3 : World} {base g : Nat} {bv rv v : Value} {d : Dk} {n : Int} (h1 : DkAt w1 base g bv rv { d with down := true }) (hg1 : w.grownBy w1 (some g)) (hs1 : w1.heap.size = w.heap.size)
    (h2 : DkAt w2 w1.heap.size w1.heap.size (.slice none 0 0) (.slice none 0 0) (D.new d.size)) (b2 : Below w1.heap.size w1 w2) (b3 : Below w2.heap.size w2 w3)
    (hv : w3.ownsRow w2.heap.size 5 1 v (D.cutB d n).length (bc (D.cutB d n))) (hl : (D.cutB d n).length ≤ d.size) :
    CutP w base g bv rv d n (.returned (.pointer (some ⟨w1.heap.size, 0, none⟩))) ((w3.setCell ⟨w1.heap.size, 1, none⟩ v).setCell ⟨w1.heap.size, 2, none⟩ (.int .i64 ((D.cutB d n).length : Int))) := by
  obtain ⟨L, gL⟩ := h2.laid b3 b2.size hv (by show _ ≤ (max (d.size : Int) 0).toNat; omega)
  have hlt := ltAt h2.1
  refine ⟨w1.heap.size, v, rfl, by omega, by rw [← hs1]; exact L, ?_, ?_⟩
  · have hb : Below w1.heap.size w1 ((w3.setCell ⟨w1.heap.size, 1, none⟩ v).setCell ⟨w1.heap.size, 2, none⟩ (.int .i64 ((D.cutB d n).length : Int))) :=
      ((b2.trans (b3.mono b2.size)).setCell (by simp) _).setCell (by simp) _
    exact h1.below hb
  · have hb : Below w1.heap.size w1 ((w3.setCell ⟨w1.heap.size, 1, none⟩ v).setCell ⟨w1.heap.size, 2, none⟩ (.int .i64 ((D.cutB d n).length : Int))) :=
      ((b2.trans (b3.mono b2.size)).setCell (by simp) _).setCell (by simp) _
    exact hg1.trans (World.grownBy.below' hb _)

set_option maxHeartbeats 1600000 in
theorem dcut_any (base g : Nat) (bv rv : Value) (d : Dk) (n : Int) (w : World) (hb : base ≤ w.heap.size) (h : DkAt w base g bv rv d) :
    Calls Tryd.prog 29 #[.pointer (some ⟨g, 0, none⟩), .int .i64 n] w (CutP w base g bv rv d n) := by
  obtain ⟨c0, c1, c2, c3, c4, c5, c6⟩ := dk_cells h
  have f4 := dk_free h 4
  have hf := h.2.2.2.2.2.2.2.2.2
  have hlb := h.2.2.2.2.2.1
  have hbs := h.2.2.2.2.2.2.1
  have hrs := h.2.2.2.2.2.2.2.1
  have hsz := h.2.2.2.2.2.2.2.2.1
  have h1 : DkAt (w.setCell ⟨g, 4, none⟩ (.bool true)) base g bv rv { d with down := true } := h.stored 4 (.bool true) rfl rfl rfl hlb rfl ⟨hf.1, hf.2.1⟩ (fun _ => rfl)
  have g1 : w.grownBy (w.setCell ⟨g, 4, none⟩ (.bool true)) (some g) := grownSet w g 4 _
  have s1 : (w.setCell ⟨g, 4, none⟩ (.bool true)).heap.size = w.heap.size := by simp
  obtain ⟨w1, hw1⟩ : ∃ w1, w1 = w.setCell ⟨g, 4, none⟩ (.bool true) := ⟨_, rfl⟩
  rw [← hw1] at h1 g1 s1
  have HW := Lib.hid hw1
  obtain ⟨k0, k1, k2, k3, k4, k5, k6⟩ := dk_cells h1
  have sB := h1.bytes
  have sR := h1.reps
  obtain ⟨BA, Bc, hbv, hBc, _, _⟩ := ownShape h.2.2.1
  obtain ⟨RA, Rc, hrv, hRc, _, _⟩ := ownShape h.2.2.2.1
  have H1 := Lib.hid h1
  have G1 := Lib.hid g1
  have S1 := Lib.hid s1
  have hz : d.size ≤ 1000000000 := hsz
  clear hw1 c1 c2 c3 c5 c6 h hf h1 g1 s1 k3 k4
  simp only at k0 k1 k2 k5 k6
  subst hbv
  subst hrv
  by_cases hw : d.within = true
  · rw [hw] at k5
    by_cases hn : 0 < n
    · have hcb : D.cutB d n = d.rep := by unfold D.cutB; rw [if_pos hw, if_pos hn]
      have HCB := Lib.hid hcb
      have HL : Hid ((D.cutB d n).length ≤ d.size) := by show _ ≤ _; rw [hcb]; exact hrs
      have sR' : SlF w1 w1.heap.size (.slice RA d.rep.length Rc) (D.cutB d n) := by rw [hcb]; exact sR
      have SR := Lib.hid sR'
      clear hcb sR sR' sB hw k1 k2
      go_enter Tryd.func29, Tryd.ntmps29
      go_wp2_with fail
      rw [← HW.out]
      refine (dnew_any (d.size : Int) w1 (by omega)).mono ?_
      rintro e w2 ⟨rfl, h2, b2, z2⟩
      have k0 := cellB b2 k0
      have k5 := cellB b2 k5
      have k6 := cellB b2 k6
      have Z2 := Lib.hid z2
      have hlt2 : w1.heap.size < w2.heap.size := by omega
      clear z2
      go_wp2_with fail
      refine (dclone_s (SR.out.below b2) (by have := HL.out; omega) b2.size).mono ?_
      rintro e w3 ⟨v3, rfl, own3, b3⟩
      have HE := Lib.hid (cut_end H1.out G1.out S1.out h2 b2 b3 own3 HL.out)
      have e3 := (b3.block _ (ltAt h2.1)).trans h2.1
      have f31 := freeAt e3 1
      have f32 := freeAt e3 2
      have c31 := cellAt e3 1
      have c32 := cellAt e3 2
      simp only [List.getElem?_toArray, List.getElem?_cons_zero, List.getElem?_cons_succ] at c31 c32
      obtain ⟨A3, c3, rfl, _, _, _⟩ := ownShape own3
      clear own3 b3 h2 e3 b2 k0 k5 k6 c4 f4
      generalize (D.cutB d n).length = m at *
      go_wp2_with fail
      go_ret
      exact HE.out
    · have hcb : D.cutB d n = d.b.take d.lasts := by unfold D.cutB; rw [if_pos hw, if_neg hn]
      have hll : (D.cutB d n).length = d.lasts := by rw [hcb, List.length_take]; omega
      have HCB := Lib.hid hcb
      have HLL := Lib.hid hll
      have HL : Hid ((D.cutB d n).length ≤ d.size) := by show _ ≤ _; rw [hll]; omega
      have sR' : SlF w1 w1.heap.size (.slice BA d.lasts Bc) (D.cutB d n) := by rw [hcb]; exact sB.first' hlb
      have SR := Lib.hid sR'
      have hl2 : (d.lasts : Int) ≤ (Bc : Int) := by omega
      have hl3 : (0 : Int) ≤ (d.lasts : Int) := by omega
      clear hcb sR sR' sB hw hll k6
      go_enter Tryd.func29, Tryd.ntmps29
      go_wp2_with fail
      rw [← HW.out]
      refine (dnew_any (d.size : Int) w1 (by omega)).mono ?_
      rintro e w2 ⟨rfl, h2, b2, z2⟩
      have k0 := cellB b2 k0
      have k5 := cellB b2 k5
      have Z2 := Lib.hid z2
      have hlt2 : w1.heap.size < w2.heap.size := by omega
      clear z2
      have k1 := cellB b2 k1
      have k2 := cellB b2 k2
      clear k0 f4 c4 c0
      go_wp2_with fail
      have hk : w2.cell? ⟨g, 1, none⟩ = some (.slice BA d.b.length Bc) ∧ w2.cell? ⟨g, 2, none⟩ = some (.int .i64 (d.lasts : Int)) := ⟨k1, k2⟩
      have hne : g ≠ w1.heap.size := fun e => by have h1 := S1.out; have h2 := ltAt H1.out.1; omega
      go_region_held3 (fun w' => w'.cell? ⟨g, 1, none⟩ = some (.slice BA d.b.length Bc) ∧ w'.cell? ⟨g, 2, none⟩ = some (.int .i64 (d.lasts : Int))) (first | exact hk | exact k3 | (refine ⟨(World.cell?_setCell_far _ _ _ _ ?_).trans k3.1, (World.cell?_setCell_far _ _ _ _ ?_).trans k3.2⟩ <;> (simp; omega))) ((go_at_call 82; refine (dclone_s (w := w2.drew) (B := w1.heap.size) (by have := SR.out.below b2; exact this) (by have := HL.out; omega) (by exact b2.size)).mono ?_; rintro e w3 ⟨v3, rfl, own3, b3⟩; have b3 := belowOfDrew b3; have HE := Lib.hid (cut_end H1.out G1.out S1.out h2 b2 b3 own3 HL.out); have e3 := (b3.block _ (ltAt h2.1)).trans h2.1; have f31 := freeAt e3 1; have f32 := freeAt e3 2; have c31 := cellAt e3 1; have c32 := cellAt e3 2; simp only [List.getElem?_toArray, List.getElem?_cons_zero, List.getElem?_cons_succ] at c31 c32; obtain ⟨A3, c3, rfl, _, _, _⟩ := ownShape own3; have k3 : w3.cell? ⟨g, 1, none⟩ = some (.slice BA d.b.length Bc) ∧ w3.cell? ⟨g, 2, none⟩ = some (.int .i64 (d.lasts : Int)) := ⟨cellB b3 k1, cellB b3 k2⟩; clear own3 e3; generalize (D.cutB d n).length = m at *))
      all_goals
        go_wp2_with fail
        go_ret
        exact HE.out
  · have hw' : d.within = false := by simpa using hw
    rw [hw'] at k5
    have e0 : IntKind.i64.wrap ((d.b.length : Int) - (d.lasts : Int)) = (d.b.length : Int) - (d.lasts : Int) := IntWalk.i64_in _ (by omega)
    have hl2 : (d.lasts : Int) ≤ (Bc : Int) := by omega
    have hl3 : (0 : Int) ≤ (d.lasts : Int) := by omega
    by_cases hn0 : n < 0
    · have hx : ¬ ((d.b.length : Int) - (d.lasts : Int) < 0) := by omega
      have hcb : D.cutB d n = d.b.take (d.lasts) := by unfold D.cutB; rw [if_neg hw]; congr 1; omega
      have hll : (D.cutB d n).length = d.lasts := by rw [hcb, List.length_take]; omega
      have HCB := Lib.hid hcb
      have HLL := Lib.hid hll
      have HL : Hid ((D.cutB d n).length ≤ d.size) := by show _ ≤ _; rw [hll]; omega
      have sR' : SlF w1 w1.heap.size (.slice BA (d.lasts) Bc) (D.cutB d n) := by rw [hcb]; exact sB.first' (by omega)
      have SR := Lib.hid sR'
      have em : (if (d.b.length : Int) - (d.lasts : Int) < 0 then (d.b.length : Int) - (d.lasts : Int) else 0) = 0 := by rw [if_neg (by omega)]
      have hx2 : ¬ ((d.b.length : Int) < (d.lasts : Int)) := by omega
      have hq1 : IntKind.i64.wrap (d.lasts : Int) = (d.lasts : Int) := IntWalk.i64_in _ (by omega)
      clear hcb sR sR' sB hw hll k6
      go_enter Tryd.func29, Tryd.ntmps29
      go_wp2_with fail
      rw [← HW.out]
      refine (dnew_any (d.size : Int) w1 (by omega)).mono ?_
      rintro e w2 ⟨rfl, h2, b2, z2⟩
      have k0 := cellB b2 k0
      have k5 := cellB b2 k5
      have Z2 := Lib.hid z2
      have hlt2 : w1.heap.size < w2.heap.size := by omega
      clear z2
      have k1 := cellB b2 k1
      have k2 := cellB b2 k2
      clear k0 f4 c4 c0
      go_wp2_with fail
      have hk : w2.cell? ⟨g, 1, none⟩ = some (.slice BA d.b.length Bc) ∧ w2.cell? ⟨g, 2, none⟩ = some (.int .i64 (d.lasts : Int)) := ⟨k1, k2⟩
      have hne : g ≠ w1.heap.size := fun e => by have h1 := S1.out; have h2 := ltAt H1.out.1; omega
      go_region_held3 (fun w' => w'.cell? ⟨g, 1, none⟩ = some (.slice BA d.b.length Bc) ∧ w'.cell? ⟨g, 2, none⟩ = some (.int .i64 (d.lasts : Int))) (first | exact hk | exact k3 | (refine ⟨(World.cell?_setCell_far _ _ _ _ ?_).trans k3.1, (World.cell?_setCell_far _ _ _ _ ?_).trans k3.2⟩ <;> (simp; omega))) ((go_at_call 82; refine (dclone_s (w := w2.drew) (B := w1.heap.size) (by have := SR.out.below b2; exact this) (by have := HL.out; omega) (by exact b2.size)).mono ?_; rintro e w3 ⟨v3, rfl, own3, b3⟩; have b3 := belowOfDrew b3; have HE := Lib.hid (cut_end H1.out G1.out S1.out h2 b2 b3 own3 HL.out); have e3 := (b3.block _ (ltAt h2.1)).trans h2.1; have f31 := freeAt e3 1; have f32 := freeAt e3 2; have c31 := cellAt e3 1; have c32 := cellAt e3 2; simp only [List.getElem?_toArray, List.getElem?_cons_zero, List.getElem?_cons_succ] at c31 c32; obtain ⟨A3, c3, rfl, _, _, _⟩ := ownShape own3; have k3 : w3.cell? ⟨g, 1, none⟩ = some (.slice BA d.b.length Bc) ∧ w3.cell? ⟨g, 2, none⟩ = some (.int .i64 (d.lasts : Int)) := ⟨cellB b3 k1, cellB b3 k2⟩; clear own3 e3; generalize (D.cutB d n).length = m at *))
      all_goals
        go_wp2_with fail
        go_ret
        exact HE.out
    · by_cases hn1 : (d.b.length : Int) - (d.lasts : Int) < n
      · have hcb : D.cutB d n = d.b.take (d.b.length) := by unfold D.cutB; rw [if_neg hw]; congr 1; omega
        have hll : (D.cutB d n).length = d.b.length := by rw [hcb, List.length_take]; omega
        have HCB := Lib.hid hcb
        have HLL := Lib.hid hll
        have HL : Hid ((D.cutB d n).length ≤ d.size) := by show _ ≤ _; rw [hll]; omega
        have sR' : SlF w1 w1.heap.size (.slice BA (d.b.length) Bc) (D.cutB d n) := by rw [hcb]; exact sB.first' (by omega)
        have SR := Lib.hid sR'
        have em : (if (d.b.length : Int) - (d.lasts : Int) < (if n < 0 then (0 : Int) else n) then (d.b.length : Int) - (d.lasts : Int) else (if n < 0 then (0 : Int) else n)) = (d.b.length : Int) - (d.lasts : Int) := by rw [if_neg hn0, if_pos (by omega)]
        have hl4 : (d.b.length : Int) ≤ (Bc : Int) := by omega
        have e1 : IntKind.i64.wrap ((d.lasts : Int) + ((d.b.length : Int) - (d.lasts : Int))) = (d.b.length : Int) := by rw [IntWalk.i64_in _ (by omega)]; omega
        have hl5 : (0 : Int) ≤ (d.b.length : Int) := by omega
        clear hcb sR sR' sB hw hll k6
        go_enter Tryd.func29, Tryd.ntmps29
        go_wp2_with fail
        rw [← HW.out]
        refine (dnew_any (d.size : Int) w1 (by omega)).mono ?_
        rintro e w2 ⟨rfl, h2, b2, z2⟩
        have k0 := cellB b2 k0
        have k5 := cellB b2 k5
        have Z2 := Lib.hid z2
        have hlt2 : w1.heap.size < w2.heap.size := by omega
        clear z2
        have k1 := cellB b2 k1
        have k2 := cellB b2 k2
        clear k0 f4 c4 c0
        go_wp2_with fail
        have hk : w2.cell? ⟨g, 1, none⟩ = some (.slice BA d.b.length Bc) ∧ w2.cell? ⟨g, 2, none⟩ = some (.int .i64 (d.lasts : Int)) := ⟨k1, k2⟩
        have hne : g ≠ w1.heap.size := fun e => by have h1 := S1.out; have h2 := ltAt H1.out.1; omega
        go_region_held3 (fun w' => w'.cell? ⟨g, 1, none⟩ = some (.slice BA d.b.length Bc) ∧ w'.cell? ⟨g, 2, none⟩ = some (.int .i64 (d.lasts : Int))) (first | exact hk | exact k3 | (refine ⟨(World.cell?_setCell_far _ _ _ _ ?_).trans k3.1, (World.cell?_setCell_far _ _ _ _ ?_).trans k3.2⟩ <;> (simp; omega))) ((go_at_call 82; refine (dclone_s (w := w2.drew) (B := w1.heap.size) (by have := SR.out.below b2; exact this) (by have := HL.out; omega) (by exact b2.size)).mono ?_; rintro e w3 ⟨v3, rfl, own3, b3⟩; have b3 := belowOfDrew b3; have HE := Lib.hid (cut_end H1.out G1.out S1.out h2 b2 b3 own3 HL.out); have e3 := (b3.block _ (ltAt h2.1)).trans h2.1; have f31 := freeAt e3 1; have f32 := freeAt e3 2; have c31 := cellAt e3 1; have c32 := cellAt e3 2; simp only [List.getElem?_toArray, List.getElem?_cons_zero, List.getElem?_cons_succ] at c31 c32; obtain ⟨A3, c3, rfl, _, _, _⟩ := ownShape own3; have k3 : w3.cell? ⟨g, 1, none⟩ = some (.slice BA d.b.length Bc) ∧ w3.cell? ⟨g, 2, none⟩ = some (.int .i64 (d.lasts : Int)) := ⟨cellB b3 k1, cellB b3 k2⟩; clear own3 e3; generalize (D.cutB d n).length = m at *))
        all_goals
          go_wp2_with fail
          go_ret
          exact HE.out
      · have hcb : D.cutB d n = d.b.take (d.lasts + n.toNat) := by unfold D.cutB; rw [if_neg hw]; congr 1; omega
        have hll : (D.cutB d n).length = d.lasts + n.toNat := by rw [hcb, List.length_take]; omega
        have HCB := Lib.hid hcb
        have HLL := Lib.hid hll
        have HL : Hid ((D.cutB d n).length ≤ d.size) := by show _ ≤ _; rw [hll]; omega
        have sR' : SlF w1 w1.heap.size (.slice BA (d.lasts + n.toNat) Bc) (D.cutB d n) := by rw [hcb]; exact sB.first' (by omega)
        have SR := Lib.hid sR'
        have em : (if (d.b.length : Int) - (d.lasts : Int) < (if n < 0 then (0 : Int) else n) then (d.b.length : Int) - (d.lasts : Int) else (if n < 0 then (0 : Int) else n)) = n := by rw [if_neg hn0, if_neg (by omega)]
        have e1 : IntKind.i64.wrap ((d.lasts : Int) + n) = (d.lasts : Int) + n := IntWalk.i64_in _ (by omega)
        have e2 : (0 : Int) ≤ (d.lasts : Int) + n := by omega
        have e3 : ((d.lasts : Int) + n).toNat = d.lasts + n.toNat := by omega
        have e4 : (d.lasts : Int) + n ≤ (Bc : Int) := by omega
        clear hcb sR sR' sB hw hll k6
        go_enter Tryd.func29, Tryd.ntmps29
        go_wp2_with fail
        rw [← HW.out]
        refine (dnew_any (d.size : Int) w1 (by omega)).mono ?_
        rintro e w2 ⟨rfl, h2, b2, z2⟩
        have k0 := cellB b2 k0
        have k5 := cellB b2 k5
        have Z2 := Lib.hid z2
        have hlt2 : w1.heap.size < w2.heap.size := by omega
        clear z2
        have k1 := cellB b2 k1
        have k2 := cellB b2 k2
        clear k0 f4 c4 c0
        go_wp2_with fail
        have hk : w2.cell? ⟨g, 1, none⟩ = some (.slice BA d.b.length Bc) ∧ w2.cell? ⟨g, 2, none⟩ = some (.int .i64 (d.lasts : Int)) := ⟨k1, k2⟩
        have hne : g ≠ w1.heap.size := fun e => by have h1 := S1.out; have h2 := ltAt H1.out.1; omega
        go_region_held3 (fun w' => w'.cell? ⟨g, 1, none⟩ = some (.slice BA d.b.length Bc) ∧ w'.cell? ⟨g, 2, none⟩ = some (.int .i64 (d.lasts : Int))) (first | exact hk | exact k3 | (refine ⟨(World.cell?_setCell_far _ _ _ _ ?_).trans k3.1, (World.cell?_setCell_far _ _ _ _ ?_).trans k3.2⟩ <;> (simp; omega))) ((go_at_call 82; refine (dclone_s (w := w2.drew) (B := w1.heap.size) (by have := SR.out.below b2; exact this) (by have := HL.out; omega) (by exact b2.size)).mono ?_; rintro e w3 ⟨v3, rfl, own3, b3⟩; have b3 := belowOfDrew b3; have HE := Lib.hid (cut_end H1.out G1.out S1.out h2 b2 b3 own3 HL.out); have e3 := (b3.block _ (ltAt h2.1)).trans h2.1; have f31 := freeAt e3 1; have f32 := freeAt e3 2; have c31 := cellAt e3 1; have c32 := cellAt e3 2; simp only [List.getElem?_toArray, List.getElem?_cons_zero, List.getElem?_cons_succ] at c31 c32; obtain ⟨A3, c3, rfl, _, _, _⟩ := ownShape own3; have k3 : w3.cell? ⟨g, 1, none⟩ = some (.slice BA d.b.length Bc) ∧ w3.cell? ⟨g, 2, none⟩ = some (.int .i64 (d.lasts : Int)) := ⟨cellB b3 k1, cellB b3 k2⟩; clear own3 e3; generalize (D.cutB d n).length = m at *))
        all_goals
          go_wp2_with fail
          go_ret
          exact HE.out
end Go.Proofs.YtjofjpmhokjhnaaDoor

namespace Go.Proofs.YtjofjpmhokjhnaaDoor
set_option maxRecDepth 20001
open Go.RowKit
set_option linter.unusedSimpArgs false
set_option linter.unusedVariables false
/-- all but the blocks of D is as it was -/
structure Fr (w w' : World) (D : Nat → Prop) : Prop where
  os : w'.os = w.os
  tape : w'.tape = w.tape
  output : w'.output = w.output
  size : w.heap.size ≤ w'.heap.size
  block : ∀ k, k < w.heap.size → ¬ D k → w'.heap[k]? = w.heap[k]?
/-- and what D' has and D lacks is new -/
structure Mv (w w' : World) (D D' : Nat → Prop) : Prop where
  fr : Fr w w' D
  sub : ∀ k, D' k → D k ∨ w.heap.size ≤ k
section
variable {w w' w'' : World} {D D' D'' : Nat → Prop} {B : Nat} {P : World → Prop}
theorem Fr.refl : Fr w w D := ⟨rfl, rfl, rfl, Nat.le_refl _, fun _ _ _ => rfl⟩
theorem Fr.drew : Fr w w.drew D := ⟨rfl, rfl, rfl, Nat.le_refl _, fun _ _ _ => rfl⟩
theorem Mv.refl : Mv w w D D := ⟨Fr.refl, fun _ h => Or.inl h⟩
theorem Fr.ofBelow (h : Below w.heap.size w w') : Fr w w' D := ⟨h.os, h.tape, h.output, h.size, fun k hk _ => h.block k hk⟩
theorem Mv.ofBelow (h : Below w.heap.size w w') : Mv w w' D D := ⟨Fr.ofBelow h, fun _ h => Or.inl h⟩
theorem Mv.trans (h : Mv w w' D D') (g : Mv w' w'' D' D'') : Mv w w'' D D'' :=
  ⟨⟨g.fr.os.trans h.fr.os, g.fr.tape.trans h.fr.tape, g.fr.output.trans h.fr.output, Nat.le_trans h.fr.size g.fr.size, fun k hk hd =>
    (g.fr.block k (Nat.lt_of_lt_of_le hk h.fr.size) (fun e => by rcases h.sub k e with q | q; exact hd q; omega)).trans (h.fr.block k hk hd)⟩,
   fun k hk => by
    rcases g.sub k hk with q | q
    · exact h.sub k q
    · exact Or.inr (Nat.le_trans h.fr.size q)⟩
theorem Fr.below (h : Fr w w' D) (hD : ∀ k, D k → B ≤ k) (hB : B ≤ w.heap.size) : Below B w w' :=
  ⟨h.os, h.tape, h.output, h.size, fun k hk => h.block k (by omega) (fun e => by have := hD k e; omega)⟩
/-- P holds, and goes on to hold whatever D's blocks do -/
def Kp (w : World) (D : Nat → Prop) (P : World → Prop) : Prop := ∀ z, Fr w z D → P z
theorem Kp.out (h : Kp w D P) : P w := h w Fr.refl
theorem Kp.mv (h : Kp w D P) (m : Mv w w' D D') : Kp w' D' P := fun z hz => h z (m.trans ⟨hz, fun k hk => Or.inl hk⟩).fr
theorem Kp.below (h : Kp w D P) (m : Below w.heap.size w w') : Kp w' D P := h.mv (Mv.ofBelow m)
/-- what a disk's own blocks are -/
def Ft (g : Nat) (bv rv : Value) : Nat → Prop := fun k => k = g ∨ bv.ownBlock = some k ∨ rv.ownBlock = some k
theorem DkAt.ft {base g k : Nat} {bv rv : Value} {d : Dk} (h : DkAt w base g bv rv d) (hk : Ft g bv rv k) : base ≤ k ∧ k < w.heap.size := by
  rcases hk with rfl | e | e
  · exact ⟨h.2.1, ltAt h.1⟩
  · exact h.2.2.1.lt k e
  · exact h.2.2.2.1.lt k e
/-- a disk behind a step -/
def DkP (w : World) (base g : Nat) (bv rv : Value) (p : Nat × Dk) (e : Ending) (w' : World) : Prop :=
  ∃ bv' rv', e = .returned (.int .i64 (p.1 : Int)) ∧ DkAt w' base g bv' rv' p.2 ∧ Mv w w' (Ft g bv rv) (Ft g bv' rv')
theorem Acted.mv {base g : Nat} {bv rv : Value} {p : Nat × Dk} {e : Ending} (h : Acted w base g bv rv p e w') : DkP w base g bv rv p e w' := by
  obtain ⟨bv', rv', h1, h2, h3, h4, h5⟩ := h
  refine ⟨bv', rv', h1, h2, ⟨⟨h3.1, h3.2.1, h3.2.2.1, h3.2.2.2.1, fun k hk hd => h3.2.2.2.2 k hk (fun q => hd (Or.inl q)) (fun q => hd (Or.inr (Or.inl q.symm)))⟩, fun k hk => ?_⟩⟩
  rcases hk with e | e | e
  · exact Or.inl (Or.inl e)
  · rcases h4 with q | q | ⟨j, q1, q2⟩
    · rw [q] at e; cases e
    · exact Or.inl (Or.inr (Or.inl (q ▸ e)))
    · rw [q1] at e; cases e; exact Or.inr q2
  · rcases h5 with q | q
    · exact Or.inl (Or.inr (Or.inr (q ▸ e)))
    · exact Or.inr (q k e)
theorem grownMv {base g : Nat} {bv rv : Value} (h : w.grownBy w' (some g)) : Mv w w' (Ft g bv rv) (Ft g bv rv) :=
  ⟨⟨h.os, h.tape, h.output, h.size, fun k hk hd => h.block k hk (fun e => hd (Or.inl (by injection e)))⟩, fun k hk => Or.inl hk⟩
theorem DkAt.mono {base base' g : Nat} {bv rv : Value} {d : Dk} (h : DkAt w base g bv rv d) (hb : base' ≤ base) : DkAt w base' g bv rv d :=
  ⟨h.1, Nat.le_trans hb h.2.1, ownMore h.2.2.1 hb, ownMore h.2.2.2.1 hb, h.2.2.2.2⟩
theorem SlF.bound {v : Value} {l : List UInt8} {B B' : Nat} (h : SlF w B v l) (h' : SlF w' B' v l) : SlF w' B v l := by
  obtain ⟨A, c, e, a1, a2, a3, rd⟩ := h
  obtain ⟨A', c', e', _, _, _, rd'⟩ := h'
  subst e
  injection e' with e1 e2 e3
  subst e1
  refine ⟨A, c, rfl, a1, a2, a3, fun j u hu => ?_⟩
  obtain ⟨b, off, q1, q2, q3⟩ := rd j u hu
  obtain ⟨b', off', p1, p2, p3⟩ := rd' j u hu
  rw [q1] at p1
  injection p1 with p1
  injection p1 with p4 p5 _
  subst p4; subst p5
  exact ⟨b, off, q1, q2, p3⟩
theorem SlF.kp {v : Value} {l : List UInt8} {g : Nat} (h : Kp w D (fun z => SlF z z.heap.size v l)) (hD : ∀ k, k = g → D k) : SlK w g v l := fun w' hg =>
  h.out.bound (h w' ⟨hg.os, hg.tape, hg.output, hg.size, fun k hk hd => hg.block k hk (fun e => hd (hD k (by injection e)))⟩)
end
end Go.Proofs.YtjofjpmhokjhnaaDoor

namespace Go.Proofs.YtjofjpmhokjhnaaDoor.F

def poly : Nat := 3988292384
/-- one bit's step -/
def step (s : Nat) : Nat := if s % 2 = 1 then (s / 2) ^^^ poly else s / 2
def steps : Nat → Nat → Nat
  | 0, s => s
  | n + 1, s => steps n (step s)
def upd (s : Nat) (b : UInt8) : Nat := steps 8 (s ^^^ b.toNat)
def run (s : Nat) (l : List UInt8) : Nat := l.foldl upd s
def sum (l : List UInt8) : Nat := 4294967295 - run 4294967295 l

theorem step_lt {s : Nat} (h : s < 4294967296) : step s < 4294967296 := by
  unfold step
  split
  · exact Nat.xor_lt_two_pow (n := 32) (by omega) (by decide)
  · omega
theorem sum_lt (l : List UInt8) : sum l < 4294967296 := by unfold sum; omega
end Go.Proofs.YtjofjpmhokjhnaaDoor.F
