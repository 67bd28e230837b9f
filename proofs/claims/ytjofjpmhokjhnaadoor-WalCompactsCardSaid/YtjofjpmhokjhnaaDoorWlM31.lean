/- Commands as bytes: what was put is taken as it was; two formed commands are alike just if their bytes are, and none's are another one's beginning. No program in sight. No condition. -/
import Derived.Test.YtjofjpmhokjhnaaDoorWlM28
namespace Go.Proofs.YtjofjpmhokjhnaaDoor
set_option maxRecDepth 20000
open Go.RowKit T
set_option linter.unusedSimpArgs false
set_option linter.unusedVariables false
theorem SameC_iff (x y : Cm) : SameC x y = true ↔ x.k = y.k ∧ x.s = y.s ∧ x.q = y.q ∧ x.rs = y.rs ∧ x.ws = y.ws ∧ x.i = y.i ∧ x.j = y.j ∧ x.g = y.g ∧ x.st = y.st ∧ x.y = y.y := by
  unfold SameC
  rw [decide_eq_true_eq]
  constructor
  · rintro ⟨h1, ⟨h2, h3⟩, h4, h5, h6, h7, h8, h9, h10⟩; exact ⟨h1, h7, h8, h9, h10, h2, h3, h4, h5, h6⟩
  · rintro ⟨h1, h7, h8, h9, h10, h2, h3, h4, h5, h6⟩; exact ⟨h1, ⟨h2, h3⟩, h4, h5, h6, h7, h8, h9, h10⟩
theorem SameC.symm {x y : Cm} (h : SameC x y = true) : SameC y x = true := by
  rw [SameC_iff] at h ⊢
  obtain ⟨h1, h2, h3, h4, h5, h6, h7, h8, h9, h10⟩ := h
  exact ⟨h1.symm, h2.symm, h3.symm, h4.symm, h5.symm, h6.symm, h7.symm, h8.symm, h9.symm, h10.symm⟩
theorem SameC.trans {x y z : Cm} (h : SameC x y = true) (g : SameC y z = true) : SameC x z = true := by
  rw [SameC_iff] at h g ⊢
  obtain ⟨h1, h2, h3, h4, h5, h6, h7, h8, h9, h10⟩ := h
  obtain ⟨g1, g2, g3, g4, g5, g6, g7, g8, g9, g10⟩ := g
  exact ⟨h1.trans g1, h2.trans g2, h3.trans g3, h4.trans g4, h5.trans g5, h6.trans g6, h7.trans g7, h8.trans g8, h9.trans g9, h10.trans g10⟩
theorem SameC.formed {x y : Cm} (h : SameC x y = true) : x.formed = y.formed := by
  rw [SameC_iff] at h
  obtain ⟨h1, h2, h3, h4, h5, h6, h7, h8, h9, h10⟩ := h
  unfold Cm.formed
  rw [h1, h2, h3, h4, h5, h6, h7, h8, h9, h10]
theorem SameC.put {x y : Cm} (h : SameC x y = true) (l : List UInt8) : cput l x = cput l y := by
  have hf := SameC.formed h
  rw [SameC_iff] at h
  obtain ⟨h1, h2, h3, h4, h5, h6, h7, h8, h9, h10⟩ := h
  unfold cput
  rw [hf, h1, h2, h3, h4, h5, h6, h7, h8, h9, h10]
namespace T
/-- a command without addresses -/
def Cm.of (k s q : Int) (rs : List Rd1) (ws : List Wr1) (i j g : Int) (st : Nat) (y : Bool) : Cm := ⟨k, s, q, rs, ws, none, 0, none, 0, i, j, g, st, y⟩
def ctake0 (s : C.St) : Cm × C.St :=
  let k := C.take 1 s
  if k.1 = 1 then let t := ttake k.2; (Cm.of 1 t.1.1.1 t.1.1.2 t.1.2.1 t.1.2.2 0 0 0 0 false, t.2)
  else if k.1 = 2 then let i := idtake k.2; let g := C.take 1 i.2; let st := C.take 8 g.2; (Cm.of 2 0 0 [] [] i.1.1 i.1.2 g.1 st.1 false, st.2)
  else if k.1 = 3 then let i := idtake k.2; let g := C.take 1 i.2; let y := C.take 1 g.2; (Cm.of 3 0 0 [] [] i.1.1 i.1.2 g.1 0 (decide (y.1 = 1)), bif decide (1 < y.1) then (y.2.1, true) else y.2)
  else (Cm.of k.1 0 0 [] [] 0 0 0 0 false, k.2)
def ctake (s : C.St) : Cm × C.St := bif (ctake0 s).2.2 || !(ctake0 s).1.formed then (Cm.zero, ((ctake0 s).2.1, true)) else ctake0 s
end T
/-- numbers and texts of a command fit -/
def Fits (x : Cm) : Prop := (∀ r ∈ x.rs, okR r) ∧ ∀ r ∈ x.ws, okW r
theorem tput_app (l : List UInt8) (s q : Int) (rs : List Rd1) (ws : List Wr1) : tput l s q rs ws = l ++ tput [] s q rs ws := by
  unfold tput
  cases formed s q rs ws with
  | false => simp
  | true =>
    simp only [cond_true]
    rw [fold_app wput wput_app, fold_app wput wput_app ws (C.put _ ws.length 1), put1, put1, fold_app rput rput_app, fold_app rput rput_app rs (C.put _ rs.length 1), put1, put1, idput_app l]
    simp only [List.append_assoc, List.nil_append]
theorem cback0 (x : Cm) (r : List UInt8) (hf : x.formed = true) (hx : Fits x) : ∃ y, ctake0 (cput [] x ++ r, false) = (y, (r, false)) ∧ SameC y x = true := by
  unfold cput
  rw [hf, cond_true]
  rcases cformed_k hf with hk | hk | hk | hk
  · rw [if_neg (by omega), if_neg (by omega), if_neg (by omega)]
    refine ⟨Cm.of 0 0 0 [] [] 0 0 0 0 false, ?_, SameC.symm (cformed_0 hf hk)⟩
    unfold ctake0
    rw [show C.put [] 0 1 = C.be 0 1 from rfl, take1 0 (by omega)]
    rfl
  · rw [if_pos hk]
    obtain ⟨h1, h2, h3, h4, h5, h6⟩ := cformed_1 hf hk
    obtain ⟨a, b, ha, hb, _⟩ := idb_nat (formed_few h1).1
    refine ⟨Cm.of 1 x.s x.q x.rs x.ws 0 0 0 0 false, ?_, (SameC_iff _ _).2 ⟨hk.symm, rfl, rfl, rfl, rfl, h2.symm, h3.symm, h4.symm, h5.symm, h6.symm⟩⟩
    rw [ha, hb] at h1 ⊢
    have := tback a b x.rs x.ws r h1 hx.1 hx.2
    unfold ctake0
    rw [tput_app, put1, List.nil_append, List.append_assoc, take1 1 (by omega)]
    simp only [if_pos, this]
  · rw [if_neg (by omega), if_pos hk]
    obtain ⟨⟨g1, g2, g3, g4, g5⟩, h1, h2, h3, h4, h5⟩ := cformed_2 hf hk
    obtain ⟨a, b, ha, hb, _⟩ := idb_nat h1
    obtain ⟨g, hg⟩ : ∃ g : Nat, x.g = (g : Int) := ⟨x.g.toNat, by omega⟩
    refine ⟨Cm.of 2 0 0 [] [] x.i x.j x.g x.st false, ?_, (SameC_iff _ _).2 ⟨hk.symm, g1.symm, g2.symm, g3.symm, g4.symm, rfl, rfl, rfl, rfl, g5.symm⟩⟩
    rw [ha, hb] at h1 ⊢
    rw [hg]
    unfold ctake0
    rw [idput_app, put8, put1, put1, List.nil_append, Int.toNat_natCast]
    simp only [List.append_assoc, take1 2 (by omega), idback a b h1, take1 g (by omega), take8 x.st (by omega)]
    rfl
  · rw [if_neg (by omega), if_neg (by omega), if_pos hk]
    obtain ⟨⟨g1, g2, g3, g4, g5⟩, h1, h2, h3⟩ := cformed_3 hf hk
    obtain ⟨a, b, ha, hb, _⟩ := idb_nat h1
    obtain ⟨g, hg⟩ : ∃ g : Nat, x.g = (g : Int) := ⟨x.g.toNat, by omega⟩
    refine ⟨Cm.of 3 0 0 [] [] x.i x.j x.g 0 x.y, ?_, (SameC_iff _ _).2 ⟨hk.symm, g1.symm, g2.symm, g3.symm, g4.symm, rfl, rfl, rfl, g5.symm, rfl⟩⟩
    rw [ha, hb] at h1 ⊢
    rw [hg]
    unfold ctake0
    rw [idput_app, put1, put1, put1, List.nil_append, Int.toNat_natCast]
    cases hy : x.y with
    | false =>
      simp only [List.append_assoc, take1 3 (by omega), idback a b h1, take1 g (by omega), Bool.false_eq_true, if_false, take1 0 (by omega)]
      rfl
    | true =>
      simp only [List.append_assoc, take1 3 (by omega), idback a b h1, take1 g (by omega), if_true, take1 1 (by omega)]
      rfl
theorem cback (x : Cm) (r : List UInt8) (hf : x.formed = true) (hx : Fits x) : ∃ y, ctake (cput [] x ++ r, false) = (y, (r, false)) ∧ SameC y x = true := by
  obtain ⟨y, h1, h2⟩ := cback0 x r hf hx
  refine ⟨y, ?_, h2⟩
  unfold ctake
  rw [h1]
  simp only
  rw [SameC.formed h2, hf]
  rfl
theorem CmOk.fits {w : World} {B : Nat} {x : Cm} (h : CmOk w B x) : Fits x := ⟨h.ro, h.wo⟩
end Go.Proofs.YtjofjpmhokjhnaaDoor
