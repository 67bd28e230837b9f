/- Commands as bytes: what was put is taken as it was; two formed commands are alike just if their bytes are, and none's are another one's beginning. No program in sight. No condition. -/
import Derived.Test.YtkfnepmiigkdfaaDoorTioP
namespace Go.Proofs.YtkfnepmiigkdfaaDoor
set_option maxRecDepth 20000
open Go.RowKit T
set_option linter.unusedSimpArgs false
set_option linter.unusedVariables false
theorem SameC_iff (x y : Cm) : SameC x y = true ↔ x.k = y.k ∧ x.s = y.s ∧ x.q = y.q ∧ x.rs = y.rs ∧ x.ws = y.ws ∧ x.i = y.i ∧ x.j = y.j ∧ x.g = y.g ∧ x.st = y.st ∧ x.y = y.y := by
  unfold SameC
  rw [decide_eq_true_eq]
  constructor
  · rintro ⟨h1, ⟨h2, h3⟩, h4, h5, h6, h7, h8, h9, h10⟩; exact ⟨h1, h7, h8, h9, h10, h2, h3, h4, h5, h6⟩
  · rintro ⟨h1, h7, h8, h9, h10, h2, h3, h4, h5, h6⟩; exact ⟨h1, ⟨h2, h3⟩, h4, h5, h6, h7, h8, h9, h10⟩
theorem SameC.symm {x y : Cm} (h : SameC x y = true) : SameC y x = true := by
  rw [SameC_iff] at h ⊢
  obtain ⟨h1, h2, h3, h4, h5, h6, h7, h8, h9, h10⟩ := h
  exact ⟨h1.symm, h2.symm, h3.symm, h4.symm, h5.symm, h6.symm, h7.symm, h8.symm, h9.symm, h10.symm⟩
theorem SameC.trans {x y z : Cm} (h : SameC x y = true) (g : SameC y z = true) : SameC x z = true := by
  rw [SameC_iff] at h g ⊢
  obtain ⟨h1, h2, h3, h4, h5, h6, h7, h8, h9, h10⟩ := h
  obtain ⟨g1, g2, g3, g4, g5, g6, g7, g8, g9, g10⟩ := g
  exact ⟨h1.trans g1, h2.trans g2, h3.trans g3, h4.trans g4, h5.trans g5, h6.trans g6, h7.trans g7, h8.trans g8, h9.trans g9, h10.trans g10⟩
theorem SameC.formed {x y : Cm} (h : SameC x y = true) : x.formed = y.formed := by
  rw [SameC_iff] at h
  obtain ⟨h1, h2, h3, h4, h5, h6, h7, h8, h9, h10⟩ := h
  unfold Cm.formed
  rw [h1, h2, h3, h4, h5, h6, h7, h8, h9, h10]
theorem SameC.put {x y : Cm} (h : SameC x y = true) (l : List UInt8) : cput l x = cput l y := by
  have hf := SameC.formed h
  rw [SameC_iff] at h
  obtain ⟨h1, h2, h3, h4, h5, h6, h7, h8, h9, h10⟩ := h
  unfold cput
  rw [hf, h1, h2, h3, h4, h5, h6, h7, h8, h9, h10]
namespace T
/-- a command without addresses -/
def Cm.of (k s q : Int) (rs : List Rd1) (ws : List Wr1) (i j g : Int) (st : Nat) (y : Bool) : Cm := ⟨k, s, q, rs, ws, none, 0, none, 0, i, j, g, st, y⟩
def ctake0 (s : C.St) : Cm × C.St :=
  let k := C.take 1 s
  if k.1 = 1 then let t := ttake k.2; (Cm.of 1 t.1.1.1 t.1.1.2 t.1.2.1 t.1.2.2 0 0 0 0 false, t.2)
  else if k.1 = 2 then let i := idtake k.2; let g := C.take 1 i.2; let st := C.take 8 g.2; (Cm.of 2 0 0 [] [] i.1.1 i.1.2 g.1 st.1 false, st.2)
  else if k.1 = 3 then let i := idtake k.2; let g := C.take 1 i.2; let y := C.take 1 g.2; (Cm.of 3 0 0 [] [] i.1.1 i.1.2 g.1 0 (decide (y.1 = 1)), bif decide (1 < y.1) then (y.2.1, true) else y.2)
  else (Cm.of k.1 0 0 [] [] 0 0 0 0 false, k.2)
def ctake (s : C.St) : Cm × C.St := bif (ctake0 s).2.2 || !(ctake0 s).1.formed then (Cm.zero, ((ctake0 s).2.1, true)) else ctake0 s
end T
/-- numbers and texts of a command fit -/
def Fits (x : Cm) : Prop := (∀ r ∈ x.rs, okR r) ∧ ∀ r ∈ x.ws, okW r
theorem tput_app (l : List UInt8) (s q : Int) (rs : List Rd1) (ws : List Wr1) : tput l s q rs ws = l ++ tput [] s q rs ws := by
  unfold tput
  cases formed s q rs ws with
  | false => simp
  | true =>
    simp only [cond_true]
    rw [fold_app wput wput_app, fold_app wput wput_app ws (C.put _ ws.length 1), put1, put1, fold_app rput rput_app, fold_app rput rput_app rs (C.put _ rs.length 1), put1, put1, idput_app l]
    simp only [List.append_assoc, List.nil_append]
theorem cback0 (x : Cm) (r : List UInt8) (hf : x.formed = true) (hx : Fits x) : ∃ y, ctake0 (cput [] x ++ r, false) = (y, (r, false)) ∧ SameC y x = true := by
  unfold cput
  rw [hf, cond_true]
  rcases cformed_k hf with hk | hk | hk | hk
  · rw [if_neg (by omega), if_neg (by omega), if_neg (by omega)]
    refine ⟨Cm.of 0 0 0 [] [] 0 0 0 0 false, ?_, SameC.symm (cformed_0 hf hk)⟩
    unfold ctake0
    rw [show C.put [] 0 1 = C.be 0 1 from rfl, take1 0 (by omega)]
    rfl
  · rw [if_pos hk]
    obtain ⟨h1, h2, h3, h4, h5, h6⟩ := cformed_1 hf hk
    obtain ⟨a, b, ha, hb, _⟩ := idb_nat (formed_few h1).1
    refine ⟨Cm.of 1 x.s x.q x.rs x.ws 0 0 0 0 false, ?_, (SameC_iff _ _).2 ⟨hk.symm, rfl, rfl, rfl, rfl, h2.symm, h3.symm, h4.symm, h5.symm, h6.symm⟩⟩
    rw [ha, hb] at h1 ⊢
    have := tback a b x.rs x.ws r h1 hx.1 hx.2
    unfold ctake0
    rw [tput_app, put1, List.nil_append, List.append_assoc, take1 1 (by omega)]
    simp only [if_pos, this]
  · rw [if_neg (by omega), if_pos hk]
    obtain ⟨⟨g1, g2, g3, g4, g5⟩, h1, h2, h3, h4, h5⟩ := cformed_2 hf hk
    obtain ⟨a, b, ha, hb, _⟩ := idb_nat h1
    obtain ⟨g, hg⟩ : ∃ g : Nat, x.g = (g : Int) := ⟨x.g.toNat, by omega⟩
    refine ⟨Cm.of 2 0 0 [] [] x.i x.j x.g x.st false, ?_, (SameC_iff _ _).2 ⟨hk.symm, g1.symm, g2.symm, g3.symm, g4.symm, rfl, rfl, rfl, rfl, g5.symm⟩⟩
    rw [ha, hb] at h1 ⊢
    rw [hg]
    unfold ctake0
    rw [idput_app, put8, put1, put1, List.nil_append, Int.toNat_natCast]
    simp only [List.append_assoc, take1 2 (by omega), idback a b h1, take1 g (by omega), take8 x.st (by omega)]
    rfl
  · rw [if_neg (by omega), if_neg (by omega), if_pos hk]
    obtain ⟨⟨g1, g2, g3, g4, g5⟩, h1, h2, h3⟩ := cformed_3 hf hk
    obtain ⟨a, b, ha, hb, _⟩ := idb_nat h1
    obtain ⟨g, hg⟩ : ∃ g : Nat, x.g = (g : Int) := ⟨x.g.toNat, by omega⟩
    refine ⟨Cm.of 3 0 0 [] [] x.i x.j x.g 0 x.y, ?_, (SameC_iff _ _).2 ⟨hk.symm, g1.symm, g2.symm, g3.symm, g4.symm, rfl, rfl, rfl, g5.symm, rfl⟩⟩
    rw [ha, hb] at h1 ⊢
    rw [hg]
    unfold ctake0
    rw [idput_app, put1, put1, put1, List.nil_append, Int.toNat_natCast]
    cases hy : x.y with
    | false =>
      simp only [List.append_assoc, take1 3 (by omega), idback a b h1, take1 g (by omega), Bool.false_eq_true, if_false, take1 0 (by omega)]
      rfl
    | true =>
      simp only [List.append_assoc, take1 3 (by omega), idback a b h1, take1 g (by omega), if_true, take1 1 (by omega)]
      rfl
theorem cback (x : Cm) (r : List UInt8) (hf : x.formed = true) (hx : Fits x) : ∃ y, ctake (cput [] x ++ r, false) = (y, (r, false)) ∧ SameC y x = true := by
  obtain ⟨y, h1, h2⟩ := cback0 x r hf hx
  refine ⟨y, ?_, h2⟩
  unfold ctake
  rw [h1]
  simp only
  rw [SameC.formed h2, hf]
  rfl
/-- whatever stands behind: bytes of formed commands are told apart -/
theorem cput_inj {a b : Cm} (ha : a.formed = true) (hb : b.formed = true) (fa : Fits a) (fb : Fits b) {r s : List UInt8} (h : cput [] a ++ r = cput [] b ++ s) : SameC a b = true ∧ r = s := by
  obtain ⟨y, h1, h2⟩ := cback a r ha fa
  obtain ⟨z, h3, h4⟩ := cback b s hb fb
  rw [h, h3] at h1
  injection h1 with e1 e2
  injection e2 with e3 _
  subst e1
  exact ⟨SameC.trans (SameC.symm h2) h4, e3.symm⟩
theorem cput_ne {x : Cm} (hf : x.formed = true) : cput [] x ≠ [] := by
  intro h
  unfold cput at h
  rw [hf, cond_true] at h
  have key : ∀ (y : List UInt8) (k : Nat), C.put [] k 1 ++ y ≠ [] := by
    intro y k h
    have := congrArg List.length h
    simp [put1, C.be_len] at this
  split at h
  · rw [tput_app] at h; exact key _ _ h
  · split at h
    · rw [put8, put1, idput_app, List.append_assoc, List.append_assoc] at h; exact key _ _ h
    · split at h
      · rw [put1, put1, idput_app, List.append_assoc, List.append_assoc] at h; exact key _ _ h
      · exact key [] 0 (by simpa using h)
/-- of two formed commands the bytes are the same just if they are alike -/
theorem cput_same {a b : Cm} (ha : a.formed = true) (hb : b.formed = true) (fa : Fits a) (fb : Fits b) : decide (cput [] a = cput [] b) = SameC a b := by
  cases h : SameC a b with
  | true => exact decide_eq_true (SameC.put h [])
  | false =>
    refine decide_eq_false fun e => ?_
    have := (cput_inj ha hb fa fb (r := []) (s := []) (by rw [e])).1
    rw [h] at this
    exact Bool.noConfusion this
/-- none's bytes are another one's beginning -/
theorem cput_prefix {a b : Cm} (ha : a.formed = true) (hb : b.formed = true) (fa : Fits a) (fb : Fits b) (hl : (cput [] a).length < (cput [] b).length) : (cput [] b).take (cput [] a).length ≠ cput [] a := by
  intro e
  have h : cput [] a ++ (cput [] b).drop (cput [] a).length = cput [] b ++ [] := by
    rw [← e, List.length_take, Nat.min_eq_left (by omega), List.append_nil]
    exact List.take_append_drop _ _
  have := congrArg List.length (cput_inj ha hb fa fb h).2
  rw [List.length_drop] at this
  simp at this
  omega
theorem CmOk.fits {w : World} {B : Nat} {x : Cm} (h : CmOk w B x) : Fits x := ⟨h.ro, h.wo⟩
end Go.Proofs.YtkfnepmiigkdfaaDoor
