/- What both sides call a formed message is the same: plain. Conditions: what lies, lies below. (Printed by gen_msg.py.) -/
import Derived.Test.YtjofjpmhokjhnaaDoorWlM34
import Derived.Test.YtjofjpmhokjhnaaDoorWlM3
import Derived.Test.YtjofjpmhokjhnaaDoorWlM19
import Derived.Test.YtjofjpmhokjhnaaDoorWlM4
import Derived.Test.YtjofjpmhokjhnaaDoorWlM15
import Derived.Test.YtjofjpmhokjhnaaDoorWlM6
import Derived.Test.YtjofjpmhokjhnaaDoorWlM33
namespace Go.Proofs.YtjofjpmhokjhnaaDoor
set_option maxRecDepth 20000
open Go.RowKit T
set_option linter.unusedSimpArgs false
set_option linter.unusedVariables false

set_option maxHeartbeats 3200000 in
theorem rfew8_any (s q : Int) (rs : List Rd1) (ws : List Wr1) (A1 : Option Addr) (c1 : Nat) (A2 : Option Addr) (c2 : Nat) (w : World) (B : Nat) (hB : B ≤ w.heap.size) (ok : TxOk w B rs ws A1 c1 A2 c2) :
    Calls Tryd.prog 97 #[.agg #[.int .i64 s, .int .i64 q, .slice A1 rs.length c1, .slice A2 ws.length c2]] w fun e w' => (∃ r : Bool, e = .returned (.bool r)) ∧ Below w.heap.size w w' := by
  obtain ⟨w0, hw0⟩ : ∃ w0, w0 = w.alloc (.cells #[.int .i64 s, .int .i64 q, .slice A1 rs.length c1, .slice A2 ws.length c2] 30) := ⟨_, rfl⟩
  have g0 : Below w.heap.size w w0 := by rw [hw0]; exact (Below.refl _ _).alloc (Nat.le_refl _) _
  have a2 : w0.cell? ⟨w.heap.size, 2, none⟩ = some (.slice A1 rs.length c1) := by rw [hw0]; simp
  have a3 : w0.cell? ⟨w.heap.size, 3, none⟩ = some (.slice A2 ws.length c2) := by rw [hw0]; simp
  obtain ⟨hr, hw, rc, wc, rm, wm, _, _⟩ := ok.below g0 hB
  unfold maxLen at rm wm
  obtain ⟨n1, hn1⟩ : ∃ n, n = rs.length := ⟨_, rfl⟩
  obtain ⟨n2, hn2⟩ : ∃ n, n = ws.length := ⟨_, rfl⟩
  have HN1 := Lib.hid hn1
  have HN2 := Lib.hid hn2
  rw [← hn1] at hw0 a2 rc ⊢
  rw [← hn2] at hw0 a3 wc ⊢
  clear hn1 hn2 ok
  go_enter Tryd.func97, Tryd.ntmps97
  go_upto_region 1 with fail
  rw [← hw0]
  clear hw0
  by_cases l1 : 12 < n1
  · have d1 : decide (12 < (n1 : Int)) = true := by simp; omega
    go_wp2_with fail
    go_ret
    exact ⟨⟨_, rfl⟩, g0⟩
  · have d1 : decide (12 < (n1 : Int)) = false := by simp; omega
    by_cases l2 : 12 < n2
    · have d2 : decide (12 < (n2 : Int)) = true := by simp; omega
      go_wp2_with fail
      go_ret
      exact ⟨⟨_, rfl⟩, g0⟩
    · have d2 : decide (12 < (n2 : Int)) = false := by simp; omega
      go_upto_region 4 with fail
      clear d1 d2
      go_loopw [3] (fun i wr => ∃ k : Nat, k ≤ n1 ∧ i = .int .i64 (k : Int) ∧ Hid (wr = w0)) (fun i _ => n1 - (intOf i).toNat)
      case atStart => exact ⟨0, Nat.zero_le _, rfl, rfl⟩
      case round =>
        obtain ⟨k, hk, rfl, HW⟩ := hrel
        rw [HW.out]
        clear HW
        by_cases hlt : k < n1
        · have hkl : k < rs.length := by rw [← HN1.out]; exact hlt
          obtain ⟨b, off, rfl, hb, x0, x1⟩ := hr.rd k hkl
          generalize (⟨rs[k].1.toArray⟩ : ByteArray) = xa at x0
          by_cases lx : 1000 < xa.size
          · have dx : decide (1000 < (xa.size : Int)) = true := by simp; omega
            go_wp2_with fail
            go_ret
            exact ⟨⟨_, rfl⟩, g0⟩
          · have dx : decide (1000 < (xa.size : Int)) = false := by simp; omega
            go_wp2_with fail
            go_roundw
            case rel => exact ⟨k + 1, by omega, by go_num, Lib.hid trivial⟩
            case measure => first | (simp [intOf]; done) | (simp [intOf]; omega)
        · obtain rfl : k = n1 := by omega
          go_upto_region 9 with fail
          go_loopw [4] (fun i wr => ∃ k : Nat, k ≤ n2 ∧ i = .int .i64 (k : Int) ∧ Hid (wr = w0)) (fun i _ => n2 - (intOf i).toNat)
          case atStart => exact ⟨0, Nat.zero_le _, rfl, rfl⟩
          case round =>
            obtain ⟨k, hk, rfl, HW⟩ := hrel
            rw [HW.out]
            clear HW
            by_cases hlt : k < n2
            · have hkl : k < ws.length := by rw [← HN2.out]; exact hlt
              obtain ⟨b, off, rfl, hb, x0, x1, x2, x3⟩ := hw.wr k hkl
              generalize (⟨ws[k].1.toArray⟩ : ByteArray) = xa at x0
              generalize (⟨ws[k].2.2.2.toArray⟩ : ByteArray) = xb at x3
              by_cases lx : 1000 < xa.size
              · have dx : decide (1000 < (xa.size : Int)) = true := by simp; omega
                go_wp2_with fail
                go_ret
                exact ⟨⟨_, rfl⟩, g0⟩
              · have dx : decide (1000 < (xa.size : Int)) = false := by simp; omega
                by_cases ly : 1000 < xb.size
                · have dy : decide (1000 < (xb.size : Int)) = true := by simp; omega
                  go_wp2_with fail
                  go_ret
                  exact ⟨⟨_, rfl⟩, g0⟩
                · have dy : decide (1000 < (xb.size : Int)) = false := by simp; omega
                  go_wp2_with fail
                  go_roundw
                  case rel => exact ⟨k + 1, by omega, by go_num, Lib.hid trivial⟩
                  case measure => first | (simp [intOf]; done) | (simp [intOf]; omega)
            · obtain rfl : k = n2 := by omega
              go_wp2_with fail
              go_ret
              exact ⟨⟨_, rfl⟩, g0⟩
set_option maxHeartbeats 1600000 in
theorem rfew_any (k : Int) (s q : Int) (rs : List Rd1) (ws : List Wr1) (A1 : Option Addr) (c1 : Nat) (A2 : Option Addr) (c2 : Nat) (i j g : Int) (st : Nat) (y : Bool) (w : World) (B : Nat) (hB : B ≤ w.heap.size) (ok : TxOk w B rs ws A1 c1 A2 c2) :
    Calls Tryd.prog 96 #[.agg #[.int .i64 k, .int .i64 s, .int .i64 q, .slice A1 rs.length c1, .slice A2 ws.length c2, .int .i64 i, .int .i64 j, .int .i64 g, .int .u64 (st : Int), .bool y]] w fun e w' => (∃ r : Bool, e = .returned (.bool r)) ∧ Below w.heap.size w w' := by
  have g0 : Below w.heap.size w (w.alloc (.cells #[.int .i64 k, .int .i64 s, .int .i64 q, .slice A1 rs.length c1, .slice A2 ws.length c2, .int .i64 i, .int .i64 j, .int .i64 g, .int .u64 (st : Int), .bool y] 45)) := (Below.refl _ _).alloc (Nat.le_refl _) _
  have H := Lib.hid (rfew8_any s q rs ws A1 c1 A2 c2 _ B (Nat.le_trans hB g0.size) (ok.below g0 hB))
  clear ok
  generalize rs.length = n1 at *
  generalize ws.length = n2 at *
  go_enter Tryd.func96, Tryd.ntmps96
  go_wp2_with fail
  refine H.out.mono ?_
  rintro e w1 ⟨⟨r, rfl⟩, b1⟩
  go_wp2_with fail
  go_ret
  exact ⟨⟨_, rfl⟩, g0.trans (b1.mono g0.size)⟩
end Go.Proofs.YtjofjpmhokjhnaaDoor

namespace Go.Proofs.YtjofjpmhokjhnaaDoor
set_option maxRecDepth 20001
open Go.RowKit T
set_option linter.unusedSimpArgs false
set_option linter.unusedVariables false

theorem rfew9 (x : Cm) (w : World) (B : Nat) (hB : B ≤ w.heap.size) (ok : CmOk w B x) : Calls Tryd.prog 96 #[.agg x.cells.toArray] w fun e w' => (∃ r : Bool, e = .returned (.bool r)) ∧ Below w.heap.size w w' := rfew_any x.k x.s x.q x.rs x.ws x.A1 x.c1 x.A2 x.c2 x.i x.j x.g x.st x.y w B hB ok
def FewIs (P : Prop) (e : Ending) : Prop := ∃ r : Bool, e = .returned (.bool r) ∧ (r = true → P)
end Go.Proofs.YtjofjpmhokjhnaaDoor

namespace Go.Proofs.YtjofjpmhokjhnaaDoor
set_option maxRecDepth 20001
open Go.RowKit T
set_option linter.unusedSimpArgs false
set_option linter.unusedVariables false

/-- does a kind use the field 'ballot' -/
def T.uB (k : Int) : Bool := decide (1 ≤ k ∧ k ≤ 5)
/-- does a kind use the field 'slot' -/
def T.uS (k : Int) : Bool := decide (k = 2 ∨ (4 ≤ k ∧ k ≤ 7) ∨ k = 15)
/-- does a kind use the field 'has' -/
def T.uH (k : Int) : Bool := decide (k = 2)
/-- does a kind use the field 'command' -/
def T.uC (k : Int) : Bool := decide (k = 4 ∨ k = 6)
/-- does a kind use the field 'txn' -/
def T.uT (k : Int) : Bool := decide (k = 8)
/-- does a kind use the field 'id' -/
def T.uI (k : Int) : Bool := decide (9 ≤ k ∧ k ≤ 11)
/-- does a kind use the field 'group' -/
def T.uG (k : Int) : Bool := decide ((9 ≤ k ∧ k ≤ 11) ∨ k = 13)
/-- does a kind use the field 'stamp' -/
def T.uP (k : Int) : Bool := decide (k = 9 ∨ (11 ≤ k ∧ k ≤ 13))
/-- does a kind use the field 'yes' -/
def T.uY (k : Int) : Bool := decide (k = 10 ∨ k = 11)
/-- does a kind use the field 'number' -/
def T.uN (k : Int) : Bool := decide (12 ≤ k ∧ k ≤ 14)
/-- does a kind use the field 'key' -/
def T.uK (k : Int) : Bool := decide (k = 12 ∨ k = 13)
/-- does a kind use the field 'value' -/
def T.uV (k : Int) : Bool := decide (k = 13)
/-- does a kind use the field 'data' -/
def T.uD (k : Int) : Bool := decide (k = 15)
end Go.Proofs.YtjofjpmhokjhnaaDoor

namespace Go.Proofs.YtjofjpmhokjhnaaDoor
set_option maxRecDepth 20001
open Go.RowKit T
set_option linter.unusedSimpArgs false
set_option linter.unusedVariables false

theorem rcs (x y : Cm) (w : World) (B : Nat) (hB : B ≤ w.heap.size) (ok : CmOk w B x) (ok' : CmOk w B y) : Calls Tryd.prog 59 #[.agg x.cells.toArray, .agg y.cells.toArray] w fun e w' => e = .returned (.bool (SameC x y)) ∧ Below w.heap.size w w' :=
  rcsame_any x.k x.s x.q x.rs x.ws x.A1 x.c1 x.A2 x.c2 x.i x.j x.g x.st x.y y.k y.s y.q y.rs y.ws y.A1 y.c1 y.A2 y.c2 y.i y.j y.g y.st y.y w B hB ok ok'
def T.Tn.formed (x : Tn) : Bool := T.formed x.s x.q x.rs x.ws
/-- the reference's first -/
def T.Ms.rfirst (m : Ms) : Bool := (bif ((T.uB m.kd && (!(B.formed m.bn))) || ((!(T.uB m.kd)) && (!decide (m.br = 0 ∧ m.bn = 0)))) then false else (bif (((decide (m.sl < 0) || decide (m.sl > 1000000)) || ((!(T.uS m.kd)) && (!decide (m.sl = 0)))) || (m.ha && (!(T.uH m.kd)))) then false else (bif ((m.ha && (!(B.formed m.vn))) || ((!m.ha) && (!decide (m.vr = 0 ∧ m.vn = 0)))) then false else (bif (m.ha || T.uC m.kd) then m.c.formed else SameC m.c Cm.zero))))
/-- the reference's second -/
def T.Ms.rsecond (m : Ms) : Bool := (bif ((T.uT m.kd && (!m.t.formed)) || ((!(T.uT m.kd)) && (!(SameT m.t Tn.zero)))) then false else (bif ((T.uI m.kd && (!(idb m.ii m.ij))) || ((!(T.uI m.kd)) && (!decide (m.ii = 0 ∧ m.ij = 0)))) then false else (bif ((((decide (m.g < 0) || decide (m.g ≥ 4)) || ((!(T.uG m.kd)) && (!decide (m.g = 0)))) || ((!(T.uP m.kd)) && (!decide ((m.st : Int) = 0)))) || (m.ye && (!(T.uY m.kd)))) then false else ((decide (m.nu ≥ 0) && decide (m.nu ≤ 2147483647)) && (T.uN m.kd || decide (m.nu = 0))))))
/-- the reference's Formed -/
def T.Ms.rformed (m : Ms) : Bool := (bif (((decide (m.kd < 1) || decide (m.kd > 15)) || (!m.rfirst)) || (!m.rsecond)) then false else (bif (((T.uK m.kd && (!(V.key m.ky.data.toList))) && ((!decide (m.kd = 13)) || (!(m.ky.data.toList == ((⟨#[]⟩ : ByteArray)).data.toList)))) || ((!(T.uK m.kd)) && (!(m.ky.data.toList == ((⟨#[]⟩ : ByteArray)).data.toList)))) then false else (bif ((!(T.uV m.kd)) && (((!decide ((m.ve : Int) = 0)) || (!decide (m.vk = 0 ∧ m.vb = 0 ∧ m.vt.data.toList = ByteArray.empty.data.toList))) || (!decide (m.er = 0)))) then false else (bif (((!(V.formed m.vk m.vb m.vt.data.toList)) || decide (m.er < 0)) || decide (m.er > 11)) then false else (decide ((m.dt.length : Int) ≤ 59900) && (T.uD m.kd || decide ((m.dt.length : Int) = 0)))))))
end Go.Proofs.YtjofjpmhokjhnaaDoor

namespace Go.Proofs.YtjofjpmhokjhnaaDoor
set_option maxRecDepth 20001
open Go.RowKit T
set_option linter.unusedSimpArgs false
set_option linter.unusedVariables false

theorem SameC_refl (x : Cm) : SameC x x = true := by unfold SameC; simp
theorem SameT_refl (x : Tn) : SameT x x = true := by unfold SameT; simp
theorem SameC_comm (x y : Cm) : SameC x y = SameC y x := by
  unfold SameC; rw [decide_eq_decide]
  constructor <;> (rintro ⟨h1, ⟨h2, h3⟩, h4, h5, h6, h7, h8, h9, h10⟩; exact ⟨h1.symm, ⟨h2.symm, h3.symm⟩, h4.symm, h5.symm, h6.symm, h7.symm, h8.symm, h9.symm, h10.symm⟩)
theorem SameT_comm (x y : Tn) : SameT x y = SameT y x := by
  unfold SameT; rw [decide_eq_decide]
  constructor <;> (rintro ⟨h1, h2, h3, h4⟩; exact ⟨h1.symm, h2.symm, h3.symm, h4.symm⟩)
theorem fields_1 : fieldsOf 1 = [66] := by decide
theorem fields_2 : fieldsOf 2 = [66, 83, 72] := by decide
theorem fields_3 : fieldsOf 3 = [66] := by decide
theorem fields_4 : fieldsOf 4 = [66, 83, 67] := by decide
theorem fields_5 : fieldsOf 5 = [66, 83] := by decide
theorem fields_6 : fieldsOf 6 = [83, 67] := by decide
theorem fields_7 : fieldsOf 7 = [83] := by decide
theorem fields_8 : fieldsOf 8 = [84] := by decide
theorem fields_9 : fieldsOf 9 = [73, 71, 80] := by decide
theorem fields_10 : fieldsOf 10 = [73, 71, 89] := by decide
theorem fields_11 : fieldsOf 11 = [73, 71, 80, 89] := by decide
theorem fields_12 : fieldsOf 12 = [80, 78, 75] := by decide
theorem fields_13 : fieldsOf 13 = [71, 80, 78, 75, 86, 88, 69] := by decide
theorem fields_14 : fieldsOf 14 = [78] := by decide
theorem fields_15 : fieldsOf 15 = [83, 68] := by decide
theorem only_1 (m : Ms) (h : m.kd = 1) : m.only = { Ms.zero 1 with br := m.br, bn := m.bn } := by
  unfold Ms.only
  rw [h, fields_1]
  simp [List.foldl, Ms.put]
theorem only_2 (m : Ms) (h : m.kd = 2) : m.only = (if m.ha then { Ms.zero 2 with br := m.br, bn := m.bn, sl := m.sl, ha := true, vr := m.vr, vn := m.vn, c := m.c } else { Ms.zero 2 with br := m.br, bn := m.bn, sl := m.sl }) := by
  unfold Ms.only
  rw [h, fields_2]
  cases hb : m.ha <;> simp [List.foldl, Ms.put, hb, Ms.zero]
theorem only_3 (m : Ms) (h : m.kd = 3) : m.only = { Ms.zero 3 with br := m.br, bn := m.bn } := by
  unfold Ms.only
  rw [h, fields_3]
  simp [List.foldl, Ms.put]
theorem only_4 (m : Ms) (h : m.kd = 4) : m.only = { Ms.zero 4 with br := m.br, bn := m.bn, sl := m.sl, c := m.c } := by
  unfold Ms.only
  rw [h, fields_4]
  simp [List.foldl, Ms.put]
theorem only_5 (m : Ms) (h : m.kd = 5) : m.only = { Ms.zero 5 with br := m.br, bn := m.bn, sl := m.sl } := by
  unfold Ms.only
  rw [h, fields_5]
  simp [List.foldl, Ms.put]
theorem only_6 (m : Ms) (h : m.kd = 6) : m.only = { Ms.zero 6 with sl := m.sl, c := m.c } := by
  unfold Ms.only
  rw [h, fields_6]
  simp [List.foldl, Ms.put]
theorem only_7 (m : Ms) (h : m.kd = 7) : m.only = { Ms.zero 7 with sl := m.sl } := by
  unfold Ms.only
  rw [h, fields_7]
  simp [List.foldl, Ms.put]
theorem only_8 (m : Ms) (h : m.kd = 8) : m.only = { Ms.zero 8 with t := m.t } := by
  unfold Ms.only
  rw [h, fields_8]
  simp [List.foldl, Ms.put]
theorem only_9 (m : Ms) (h : m.kd = 9) : m.only = { Ms.zero 9 with ii := m.ii, ij := m.ij, g := m.g, st := m.st } := by
  unfold Ms.only
  rw [h, fields_9]
  simp [List.foldl, Ms.put]
theorem only_10 (m : Ms) (h : m.kd = 10) : m.only = { Ms.zero 10 with ii := m.ii, ij := m.ij, g := m.g, ye := m.ye } := by
  unfold Ms.only
  rw [h, fields_10]
  simp [List.foldl, Ms.put]
theorem only_11 (m : Ms) (h : m.kd = 11) : m.only = { Ms.zero 11 with ii := m.ii, ij := m.ij, g := m.g, st := m.st, ye := m.ye } := by
  unfold Ms.only
  rw [h, fields_11]
  simp [List.foldl, Ms.put]
theorem only_12 (m : Ms) (h : m.kd = 12) : m.only = { Ms.zero 12 with st := m.st, nu := m.nu, ky := m.ky } := by
  unfold Ms.only
  rw [h, fields_12]
  simp [List.foldl, Ms.put]
theorem only_13 (m : Ms) (h : m.kd = 13) : m.only = { Ms.zero 13 with g := m.g, st := m.st, nu := m.nu, ky := m.ky, ve := m.ve, vk := m.vk, vb := m.vb, vt := m.vt, er := m.er } := by
  unfold Ms.only
  rw [h, fields_13]
  simp [List.foldl, Ms.put]
theorem only_14 (m : Ms) (h : m.kd = 14) : m.only = { Ms.zero 14 with nu := m.nu } := by
  unfold Ms.only
  rw [h, fields_14]
  simp [List.foldl, Ms.put]
theorem only_15 (m : Ms) (h : m.kd = 15) : m.only = { Ms.zero 15 with sl := m.sl, dt := m.dt, D := m.D, dc := m.dc } := by
  unfold Ms.only
  rw [h, fields_15]
  simp [List.foldl, Ms.put]
set_option maxHeartbeats 4000000
theorem fkd_1 (m : Ms) (h : m.kd = 1) : m.formed = m.rformed := by
  rw [Bool.eq_iff_iff]
  unfold T.Ms.formed T.Ms.fit T.Ms.sound T.Ms.rformed T.Ms.rfirst T.Ms.rsecond
  rw [only_1 m h, SameC_comm m.c Cm.zero, SameT_comm m.t Tn.zero]
  unfold T.Ms.same
  simp only [h, fields_1, Tn.formed, T.uB, T.uS, T.uH, T.uC, T.uT, T.uI, T.uG, T.uP, T.uY, T.uN, T.uK, T.uV, T.uD, Ms.zero]
  cases hh : m.ha <;> simp [SameC_refl, SameT_refl, Lib.toList_data] <;> (try simp only [decide_eq_true_eq]) <;> grind
theorem fkd_2 (m : Ms) (h : m.kd = 2) : m.formed = m.rformed := by
  rw [Bool.eq_iff_iff]
  unfold T.Ms.formed T.Ms.fit T.Ms.sound T.Ms.rformed T.Ms.rfirst T.Ms.rsecond
  rw [only_2 m h, SameC_comm m.c Cm.zero, SameT_comm m.t Tn.zero]
  unfold T.Ms.same
  simp only [h, fields_2, Tn.formed, T.uB, T.uS, T.uH, T.uC, T.uT, T.uI, T.uG, T.uP, T.uY, T.uN, T.uK, T.uV, T.uD, Ms.zero]
  cases hh : m.ha <;> simp [SameC_refl, SameT_refl, Lib.toList_data] <;> (try simp only [decide_eq_true_eq]) <;> grind
theorem fkd_3 (m : Ms) (h : m.kd = 3) : m.formed = m.rformed := by
  rw [Bool.eq_iff_iff]
  unfold T.Ms.formed T.Ms.fit T.Ms.sound T.Ms.rformed T.Ms.rfirst T.Ms.rsecond
  rw [only_3 m h, SameC_comm m.c Cm.zero, SameT_comm m.t Tn.zero]
  unfold T.Ms.same
  simp only [h, fields_3, Tn.formed, T.uB, T.uS, T.uH, T.uC, T.uT, T.uI, T.uG, T.uP, T.uY, T.uN, T.uK, T.uV, T.uD, Ms.zero]
  cases hh : m.ha <;> simp [SameC_refl, SameT_refl, Lib.toList_data] <;> (try simp only [decide_eq_true_eq]) <;> grind
theorem fkd_4 (m : Ms) (h : m.kd = 4) : m.formed = m.rformed := by
  rw [Bool.eq_iff_iff]
  unfold T.Ms.formed T.Ms.fit T.Ms.sound T.Ms.rformed T.Ms.rfirst T.Ms.rsecond
  rw [only_4 m h, SameC_comm m.c Cm.zero, SameT_comm m.t Tn.zero]
  unfold T.Ms.same
  simp only [h, fields_4, Tn.formed, T.uB, T.uS, T.uH, T.uC, T.uT, T.uI, T.uG, T.uP, T.uY, T.uN, T.uK, T.uV, T.uD, Ms.zero]
  cases hh : m.ha <;> simp [SameC_refl, SameT_refl, Lib.toList_data] <;> (try simp only [decide_eq_true_eq]) <;> grind
theorem fkd_5 (m : Ms) (h : m.kd = 5) : m.formed = m.rformed := by
  rw [Bool.eq_iff_iff]
  unfold T.Ms.formed T.Ms.fit T.Ms.sound T.Ms.rformed T.Ms.rfirst T.Ms.rsecond
  rw [only_5 m h, SameC_comm m.c Cm.zero, SameT_comm m.t Tn.zero]
  unfold T.Ms.same
  simp only [h, fields_5, Tn.formed, T.uB, T.uS, T.uH, T.uC, T.uT, T.uI, T.uG, T.uP, T.uY, T.uN, T.uK, T.uV, T.uD, Ms.zero]
  cases hh : m.ha <;> simp [SameC_refl, SameT_refl, Lib.toList_data] <;> (try simp only [decide_eq_true_eq]) <;> grind
theorem fkd_6 (m : Ms) (h : m.kd = 6) : m.formed = m.rformed := by
  rw [Bool.eq_iff_iff]
  unfold T.Ms.formed T.Ms.fit T.Ms.sound T.Ms.rformed T.Ms.rfirst T.Ms.rsecond
  rw [only_6 m h, SameC_comm m.c Cm.zero, SameT_comm m.t Tn.zero]
  unfold T.Ms.same
  simp only [h, fields_6, Tn.formed, T.uB, T.uS, T.uH, T.uC, T.uT, T.uI, T.uG, T.uP, T.uY, T.uN, T.uK, T.uV, T.uD, Ms.zero]
  cases hh : m.ha <;> simp [SameC_refl, SameT_refl, Lib.toList_data] <;> (try simp only [decide_eq_true_eq]) <;> grind
theorem fkd_7 (m : Ms) (h : m.kd = 7) : m.formed = m.rformed := by
  rw [Bool.eq_iff_iff]
  unfold T.Ms.formed T.Ms.fit T.Ms.sound T.Ms.rformed T.Ms.rfirst T.Ms.rsecond
  rw [only_7 m h, SameC_comm m.c Cm.zero, SameT_comm m.t Tn.zero]
  unfold T.Ms.same
  simp only [h, fields_7, Tn.formed, T.uB, T.uS, T.uH, T.uC, T.uT, T.uI, T.uG, T.uP, T.uY, T.uN, T.uK, T.uV, T.uD, Ms.zero]
  cases hh : m.ha <;> simp [SameC_refl, SameT_refl, Lib.toList_data] <;> (try simp only [decide_eq_true_eq]) <;> grind
theorem fkd_8 (m : Ms) (h : m.kd = 8) : m.formed = m.rformed := by
  rw [Bool.eq_iff_iff]
  unfold T.Ms.formed T.Ms.fit T.Ms.sound T.Ms.rformed T.Ms.rfirst T.Ms.rsecond
  rw [only_8 m h, SameC_comm m.c Cm.zero, SameT_comm m.t Tn.zero]
  unfold T.Ms.same
  simp only [h, fields_8, Tn.formed, T.uB, T.uS, T.uH, T.uC, T.uT, T.uI, T.uG, T.uP, T.uY, T.uN, T.uK, T.uV, T.uD, Ms.zero]
  cases hh : m.ha <;> simp [SameC_refl, SameT_refl, Lib.toList_data] <;> (try simp only [decide_eq_true_eq]) <;> grind
theorem fkd_9 (m : Ms) (h : m.kd = 9) : m.formed = m.rformed := by
  rw [Bool.eq_iff_iff]
  unfold T.Ms.formed T.Ms.fit T.Ms.sound T.Ms.rformed T.Ms.rfirst T.Ms.rsecond
  rw [only_9 m h, SameC_comm m.c Cm.zero, SameT_comm m.t Tn.zero]
  unfold T.Ms.same
  simp only [h, fields_9, Tn.formed, T.uB, T.uS, T.uH, T.uC, T.uT, T.uI, T.uG, T.uP, T.uY, T.uN, T.uK, T.uV, T.uD, Ms.zero]
  cases hh : m.ha <;> simp [SameC_refl, SameT_refl, Lib.toList_data] <;> (try simp only [decide_eq_true_eq]) <;> grind
theorem fkd_10 (m : Ms) (h : m.kd = 10) : m.formed = m.rformed := by
  rw [Bool.eq_iff_iff]
  unfold T.Ms.formed T.Ms.fit T.Ms.sound T.Ms.rformed T.Ms.rfirst T.Ms.rsecond
  rw [only_10 m h, SameC_comm m.c Cm.zero, SameT_comm m.t Tn.zero]
  unfold T.Ms.same
  simp only [h, fields_10, Tn.formed, T.uB, T.uS, T.uH, T.uC, T.uT, T.uI, T.uG, T.uP, T.uY, T.uN, T.uK, T.uV, T.uD, Ms.zero]
  cases hh : m.ha <;> simp [SameC_refl, SameT_refl, Lib.toList_data] <;> (try simp only [decide_eq_true_eq]) <;> grind
theorem fkd_11 (m : Ms) (h : m.kd = 11) : m.formed = m.rformed := by
  rw [Bool.eq_iff_iff]
  unfold T.Ms.formed T.Ms.fit T.Ms.sound T.Ms.rformed T.Ms.rfirst T.Ms.rsecond
  rw [only_11 m h, SameC_comm m.c Cm.zero, SameT_comm m.t Tn.zero]
  unfold T.Ms.same
  simp only [h, fields_11, Tn.formed, T.uB, T.uS, T.uH, T.uC, T.uT, T.uI, T.uG, T.uP, T.uY, T.uN, T.uK, T.uV, T.uD, Ms.zero]
  cases hh : m.ha <;> simp [SameC_refl, SameT_refl, Lib.toList_data] <;> (try simp only [decide_eq_true_eq]) <;> grind
theorem fkd_12 (m : Ms) (h : m.kd = 12) : m.formed = m.rformed := by
  rw [Bool.eq_iff_iff]
  unfold T.Ms.formed T.Ms.fit T.Ms.sound T.Ms.rformed T.Ms.rfirst T.Ms.rsecond
  rw [only_12 m h, SameC_comm m.c Cm.zero, SameT_comm m.t Tn.zero]
  unfold T.Ms.same
  simp only [h, fields_12, Tn.formed, T.uB, T.uS, T.uH, T.uC, T.uT, T.uI, T.uG, T.uP, T.uY, T.uN, T.uK, T.uV, T.uD, Ms.zero]
  cases hh : m.ha <;> simp [SameC_refl, SameT_refl, Lib.toList_data] <;> (try simp only [decide_eq_true_eq]) <;> grind
theorem fkd_13 (m : Ms) (h : m.kd = 13) : m.formed = m.rformed := by
  rw [Bool.eq_iff_iff]
  unfold T.Ms.formed T.Ms.fit T.Ms.sound T.Ms.rformed T.Ms.rfirst T.Ms.rsecond
  rw [only_13 m h, SameC_comm m.c Cm.zero, SameT_comm m.t Tn.zero]
  unfold T.Ms.same
  simp only [h, fields_13, Tn.formed, T.uB, T.uS, T.uH, T.uC, T.uT, T.uI, T.uG, T.uP, T.uY, T.uN, T.uK, T.uV, T.uD, Ms.zero]
  cases hh : m.ha <;> simp [SameC_refl, SameT_refl, Lib.toList_data] <;> (try simp only [decide_eq_true_eq]) <;> grind
theorem fkd_14 (m : Ms) (h : m.kd = 14) : m.formed = m.rformed := by
  rw [Bool.eq_iff_iff]
  unfold T.Ms.formed T.Ms.fit T.Ms.sound T.Ms.rformed T.Ms.rfirst T.Ms.rsecond
  rw [only_14 m h, SameC_comm m.c Cm.zero, SameT_comm m.t Tn.zero]
  unfold T.Ms.same
  simp only [h, fields_14, Tn.formed, T.uB, T.uS, T.uH, T.uC, T.uT, T.uI, T.uG, T.uP, T.uY, T.uN, T.uK, T.uV, T.uD, Ms.zero]
  cases hh : m.ha <;> simp [SameC_refl, SameT_refl, Lib.toList_data] <;> (try simp only [decide_eq_true_eq]) <;> grind
theorem fkd_15 (m : Ms) (h : m.kd = 15) : m.formed = m.rformed := by
  rw [Bool.eq_iff_iff]
  unfold T.Ms.formed T.Ms.fit T.Ms.sound T.Ms.rformed T.Ms.rfirst T.Ms.rsecond
  rw [only_15 m h, SameC_comm m.c Cm.zero, SameT_comm m.t Tn.zero]
  unfold T.Ms.same
  simp only [h, fields_15, Tn.formed, T.uB, T.uS, T.uH, T.uC, T.uT, T.uI, T.uG, T.uP, T.uY, T.uN, T.uK, T.uV, T.uD, Ms.zero]
  cases hh : m.ha <;> simp [SameC_refl, SameT_refl, Lib.toList_data] <;> (try simp only [decide_eq_true_eq]) <;> grind
/-- what both sides call formed is the same -/
theorem formed_eq (m : Ms) : m.formed = m.rformed := by
  by_cases k1 : m.kd = 1
  · exact fkd_1 m k1
  by_cases k2 : m.kd = 2
  · exact fkd_2 m k2
  by_cases k3 : m.kd = 3
  · exact fkd_3 m k3
  by_cases k4 : m.kd = 4
  · exact fkd_4 m k4
  by_cases k5 : m.kd = 5
  · exact fkd_5 m k5
  by_cases k6 : m.kd = 6
  · exact fkd_6 m k6
  by_cases k7 : m.kd = 7
  · exact fkd_7 m k7
  by_cases k8 : m.kd = 8
  · exact fkd_8 m k8
  by_cases k9 : m.kd = 9
  · exact fkd_9 m k9
  by_cases k10 : m.kd = 10
  · exact fkd_10 m k10
  by_cases k11 : m.kd = 11
  · exact fkd_11 m k11
  by_cases k12 : m.kd = 12
  · exact fkd_12 m k12
  by_cases k13 : m.kd = 13
  · exact fkd_13 m k13
  by_cases k14 : m.kd = 14
  · exact fkd_14 m k14
  by_cases k15 : m.kd = 15
  · exact fkd_15 m k15
  have hf : fieldsOf m.kd = [] := by unfold fieldsOf; simp only [k1, k2, k3, k4, k5, k6, k7, k8, k9, k10, k11, k12, k13, k14, k15, if_false, or_self]
  have h1 : m.formed = false := by unfold T.Ms.formed T.Ms.fit; rw [hf]; simp
  have h2 : m.rformed = false := by
    unfold T.Ms.rformed
    by_cases q : m.kd < 1
    · simp [q]
    · have : m.kd > 15 := by omega
      simp [this]
  rw [h1, h2]
end Go.Proofs.YtjofjpmhokjhnaaDoor
