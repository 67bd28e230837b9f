/- The reference's Formed of messages. Conditions: what lies, lies below. (Printed by gen_msg.py.) -/
import Derived.Test.YtjofjpmhokjhnaaDoorMwM11
import Derived.Test.YtjofjpmhokjhnaaDoorMwM27
import Derived.Test.YtjofjpmhokjhnaaDoorMwM28
import Derived.Test.YtjofjpmhokjhnaaDoorMwM26
import Derived.Test.YtjofjpmhokjhnaaDoorMwM21
namespace Go.Proofs.YtjofjpmhokjhnaaDoor
set_option maxRecDepth 20000
open Go.RowKit
set_option linter.unusedSimpArgs false
set_option linter.unusedVariables false
set_option maxHeartbeats 1600000 in
theorem samed_any (A B : Option Addr) (c d : Nat) (l m : List UInt8) (w : World) (b1 b2 : Nat) (hl : l.length ≤ 1099511627776) (hm : m.length ≤ 1099511627776) (hA : Rd w b1 A (bc l)) (hB : Rd w b2 B (bc m)) (hc : l.length ≤ c) (hd : m.length ≤ d) :
  Calls Tryd.prog 22 #[.slice A l.length c, .slice B m.length d] w fun e w' => e = .returned (.bool (decide (l = m))) ∧ Below w.heap.size w w' := by
 obtain ⟨p, hp⟩ : ∃ p : Bool, p = decide (l = m) := ⟨_, rfl⟩
 have HP : Hid (decide (l = m) = p) := hp.symm
 rw [← hp]
 clear hp
 by_cases hlen : l.length = m.length
 ·obtain ⟨n, hn⟩ : ∃ n, n = l.length := ⟨_, rfl⟩
  have HN := Lib.hid hn
  have HM : Hid (n = m.length) := by show _ = _; omega
  rw [← hlen, ← hn]
  rw [← hn] at hl hc
  rw [← HM.out] at hd hm
  clear hn hlen
  go_enter Tryd.func22, Tryd.ntmps22
  go_wp2_with fail
  go_loopw [5] (fun i wr => ∃ k q : Nat, k ≤ n ∧ i = .int .i64 k ∧ wr = w.drewN q ∧ Hid (l.take k = m.take k)) (fun i _ => n - (intOf i).toNat)
  case atStart => exact ⟨0, 0, Nat.zero_le _, rfl, rfl, rfl⟩
  case round =>
   obtain ⟨k, q, hk, rfl, rfl, HT⟩ := hrel
   by_cases hlt : k < n
   ·have hkl : k < l.length := by rw [← HN.out]; exact hlt
    have hkm : k < m.length := by rw [← HM.out]; exact hlt
    obtain ⟨ab, ao, rfl, _, hca⟩ := hA.at_ (show k < (bc l).length by rw [bc_len]; exact hkl)
    obtain ⟨bb, bo, rfl, _, hcb⟩ := hB.at_ (show k < (bc m).length by rw [bc_len]; exact hkm)
    rw [bc_get] at hca hcb
    have HL : Hid (l.take (k + 1) = l.take k ++ [l[k]'hkl]) := List.take_succ_eq_append_getElem hkl
    have HR : Hid (m.take (k + 1) = m.take k ++ [m[k]'hkm]) := List.take_succ_eq_append_getElem hkm
    generalize l[k] = x at hca HL
    generalize m[k] = y at hcb HR
    have hb0 : (0 : Int) ≤ (k : Int) := by omega
    have hb1 : (k : Int) < (n : Int) := by omega
    by_cases hxy : x = y
    ·subst hxy
     have HT2 : Hid (l.take (k + 1) = m.take (k + 1)) := by show _ = _; rw [HL.out, HR.out, HT.out]
     clear HL HR hkl hkm
     generalize (x.toNat : Int) = xi at hca hcb
     go_wp2_with fail
     go_quiet (fail)
     go_wp2_with fail
     go_roundw
     case rel => exact ⟨k + 1, _, by omega, by go_num, rfl, HT2⟩
     case measure => simp [intOf]; omega
    ·have HF : Hid (false = p) := by
      show _ = _
      rw [← HP.out]
      refine (decide_eq_false fun e => hxy ?_).symm
      have h1 := HL.out
      rw [e, HR.out, ← HT.out] at h1
      have h2 := List.append_cancel_left h1
      injection h2 with h2
      exact h2.symm
     have hne : ((x.toNat : Int) == (y.toNat : Int)) = false := by
      rw [beq_eq_false_iff_ne]
      intro h
      exact hxy (UInt8.toNat_inj.1 (by omega))
     clear HL HR hkl hkm hxy
     generalize (x.toNat : Int) = xi at hca hne
     generalize (y.toNat : Int) = yi at hcb hne
     go_wp2_with fail
     go_quiet (fail)
     go_wp2_with fail
     go_ret
     exact ⟨ret_bool HF.out, belowDrewN (belowDrewN (Below.refl _ _) _) _⟩
   ·have HF : Hid (true = p) := by
     show _ = _
     rw [← HP.out]
     have e : k = n := by omega
     have h1 := HT.out
     rw [e, List.take_of_length_le (by rw [← HN.out]; exact Nat.le_refl _), List.take_of_length_le (by rw [← HM.out]; exact Nat.le_refl _)] at h1
     exact (decide_eq_true h1).symm
    go_wp2_with fail
    go_ret
    exact ⟨ret_bool HF.out, belowDrewN (Below.refl _ _) _⟩
 ·have HF : Hid (false = p) := by
   show _ = _
   rw [← HP.out]
   exact (decide_eq_false fun e => hlen (by rw [e])).symm
  have hne : ((l.length : Int) == (m.length : Int)) = false := by rw [beq_eq_false_iff_ne]; omega
  clear hlen
  generalize l.length = n1 at *
  generalize m.length = n2 at *
  go_enter Tryd.func22, Tryd.ntmps22
  go_wp2_with fail
  go_ret
  exact ⟨ret_bool HF.out, Below.refl _ _⟩
theorem samed_s {w : World} {B1 B2 : Nat} {v u : Value} {l m : List UInt8} (h : SlB w B1 v l) (g : SlB w B2 u m) (hl : l.length ≤ 1099511627776) (hm : m.length ≤ 1099511627776) :
  Calls Tryd.prog 22 #[v, u] w fun e w' => e = .returned (.bool (decide (l = m))) ∧ Below w.heap.size w w' := by
 obtain ⟨A, c, rfl, hc, hmx, hA, hr⟩ := h
 obtain ⟨A', c', rfl, hc', hmx', hA', hr'⟩ := g
 exact samed_any A A' c c' l m w _ _ hl hm hr hr' hc hc'
end Go.Proofs.YtjofjpmhokjhnaaDoor

namespace Go.Proofs.YtjofjpmhokjhnaaDoor
set_option maxRecDepth 20001
open Go.RowKit T
set_option linter.unusedSimpArgs false
set_option linter.unusedVariables false

theorem rbf (r : Nat) (n : Int) (w : World) : Calls Tryd.prog 107 #[.agg #[.int .u32 (r : Int), .int .i64 n]] w fun e w' => e = .returned (.bool (B.formed n)) ∧ Below w.heap.size w w' := rbformed_any r n w
theorem rcf (x : Cm) (w : World) (B : Nat) (hB : B ≤ w.heap.size) (ok : CmOk w B x) : Calls Tryd.prog 108 #[.agg x.cells.toArray] w fun e w' => e = .returned (.bool x.formed) ∧ Below w.heap.size w w' :=
 rcformed_any x.k x.s x.q x.rs x.ws x.A1 x.c1 x.A2 x.c2 x.i x.j x.g x.st x.y w B hB ok
theorem rcs (x y : Cm) (w : World) (B : Nat) (hB : B ≤ w.heap.size) (ok : CmOk w B x) (ok' : CmOk w B y) : Calls Tryd.prog 59 #[.agg x.cells.toArray, .agg y.cells.toArray] w fun e w' => e = .returned (.bool (SameC x y)) ∧ Below w.heap.size w w' :=
 rcsame_any x.k x.s x.q x.rs x.ws x.A1 x.c1 x.A2 x.c2 x.i x.j x.g x.st x.y y.k y.s y.q y.rs y.ws y.A1 y.c1 y.A2 y.c2 y.i y.j y.g y.st y.y w B hB ok ok'
def T.Tn.formed (x : Tn) : Bool := T.formed x.s x.q x.rs x.ws
abbrev TnOk (w : World) (B : Nat) (x : Tn) : Prop := TxOk w B x.rs x.ws x.A1 x.c1 x.A2 x.c2
theorem rtf (x : Tn) (w : World) (B : Nat) (hB : B ≤ w.heap.size) (ok : TnOk w B x) : Calls Tryd.prog 109 #[.agg x.cells.toArray] w fun e w' => e = .returned (.bool x.formed) ∧ Below w.heap.size w w' :=
 rtformed_any x.s x.q x.rs x.ws x.A1 x.c1 x.A2 x.c2 w B hB ok
theorem rts (x y : Tn) (w : World) (B : Nat) (hB : B ≤ w.heap.size) (ok : TnOk w B x) (ok' : TnOk w B y) : Calls Tryd.prog 60 #[.agg x.cells.toArray, .agg y.cells.toArray] w fun e w' => e = .returned (.bool (SameT x y)) ∧ Below w.heap.size w w' :=
 rtsame_any x.s x.q x.rs x.ws x.A1 x.c1 x.A2 x.c2 y.s y.q y.rs y.ws y.A1 y.c1 y.A2 y.c2 w B hB ok ok'
theorem tnZero {w : World} {B : Nat} : TnOk w B Tn.zero := TxOk.zero
theorem run_eqvD (k : Int) (b : Nat) (t : ByteArray) (k' : Int) (b' : Nat) (t' : ByteArray) (w : World) :
  (binOp .eql 35 (.agg #[.int .i64 k, .int .u64 b, .string t]) (.agg #[.int .i64 k', .int .u64 b', .string t'])).run Tryd.prog w = .ok (.bool (decide (k = k' ∧ b = b' ∧ t.data.toList = t'.data.toList))) w := by
 have h := V.run_eqv k b t k' b' t' w
 simp only [Lib.toList_data] at h
 exact h
theorem rfm (k : Int) (b : Nat) (bb : b < 18446744073709551616) (t : ByteArray) (w : World) : Calls Tryd.prog 54 #[.agg #[.int .i64 k, .int .u64 (b : Int), .string t]] w fun e w' => e = .returned (.bool (V.formed k b t.data.toList)) ∧ Below w.heap.size w w' := rformed_any k b bb t w
/-- the reference's first -/
def T.Ms.rfirst (m : Ms) : Bool := (bif ((T.uB m.kd && (!(B.formed m.bn))) || ((!(T.uB m.kd)) && (!decide (m.br = 0 ∧ m.bn = 0)))) then false else (bif (((decide (m.sl < 0) || decide (m.sl > 1000000)) || ((!(T.uS m.kd)) && (!decide (m.sl = 0)))) || (m.ha && (!(T.uH m.kd)))) then false else (bif ((m.ha && (!(B.formed m.vn))) || ((!m.ha) && (!decide (m.vr = 0 ∧ m.vn = 0)))) then false else (bif (m.ha || T.uC m.kd) then m.c.formed else SameC m.c Cm.zero))))
set_option maxHeartbeats 25600000 in
theorem rfirst_any (m : Ms) (w : World) (B0 : Nat) (hB : B0 ≤ w.heap.size) (ok : MsOk w B0 m) :
  Calls Tryd.prog 50 #[.agg m.cells.toArray] w fun e w' => e = .returned (.bool m.rfirst) ∧ Below w.heap.size w w' := by
 have ee : Below w.heap.size w w := Below.refl _ _
 go_enter Tryd.func50, Tryd.ntmps50
 refine wp_seq_k fun K1 hK1 => ?_
 refine wp_region_lit ?_
 with_reducible refine ww (.pointer (some ⟨w.heap.size, 0, none⟩)) (w.alloc (.cells (m.cells).toArray 47)) ?_
 try simp only [nP, nN, nA, n0, nS]
 have sz_g2 := ee.size
 have sz_ := ee.size
 have ee := ee.alloc ee.size (.cells (m.cells).toArray 47)
 have Zb1 := hpN w (.cells (m.cells).toArray 47) rfl
 generalize w.alloc (.cells (m.cells).toArray 47) = z1 at Zb1 ee ⊢
 obtain ⟨g2, hg_g2⟩ : ∃ g_, g_ = w.heap.size := ⟨_, rfl⟩
 have hB_g2 : w.heap.size ≤ g2 := by rw [hg_g2]; exact sz_g2
 rw [← hg_g2] at Zb1 ⊢
 clear hg_g2
 with_reducible refine wv (.bool false) ?_
 try simp only [nP, nN, nA, n0, nS]
 refine wpList_nil ?_
 refine hK1 _ _ ?_
 refine wp_seq_k fun K3 hK3 => ?_
 refine wp_region_lit ?_
 with_reducible refine wv (.pointer (some ⟨g2, 0, none⟩)) ?_
 try simp only [nP, nN, nA, n0, nS]
 with_reducible refine wl (.int .i64 m.kd) ⟨g2, 0, none⟩ (rowCell Zb1 (0) rfl) Tryd.underlying3 ?_
 try simp only [nP, nN, nA, n0, nS]
 with_reducible refine wv (.int .i64 m.kd) ?_
 try simp only [nP, nN, nA, n0, nS]
 refine wpList_nil ?_
 refine hK3 _ _ ?_
 refine wp_seq_k fun K4 hK4 => ?_
 refine wp_seq_k fun K5 hK5 => ?_
 have hjK5 : ∀ (u6 u7 u8 u9 u10 u11 u12 u13 u14 u15 u16 u17 u18 u19 u20 u21 u22 u23 : Value) (b7 : Bool) (zc5 : World), zc5.heap[g2]? = some (.cells (m.cells).toArray 47 (0, 0)) → Below w.heap.size w zc5 → ((T.uB m.kd && (!(B.formed m.bn))) || ((!(T.uB m.kd)) && (!decide (m.br = 0 ∧ m.bn = 0)))) = b7 → K5 ⟨#[.agg (m.cells).toArray, .pointer (some ⟨g2, 0, none⟩), .bool false, .int .i64 m.kd, .pointer (some ⟨g2, 0, none⟩), .int .i64 m.kd, u6, u7, u8, u9, u10, u11, u12, u13, u14, u15, u16, u17, u18, u19, u20, u21, u22, u23, .bool b7, undef, undef, undef, undef, undef, undef, undef, undef, undef, undef, undef, undef, undef, undef, undef, undef, undef, undef, undef, undef, undef, undef, undef, undef, undef, undef, undef, undef, undef, undef, undef, undef, undef, undef, undef, undef, undef, undef, undef, undef, undef, undef, undef, undef, undef, undef, undef, undef, undef, undef, undef, undef, undef, undef, undef, undef, undef, undef, undef], []⟩ zc5 := by
  clear Zb1 ee
  intro u6 u7 u8 u9 u10 u11 u12 u13 u14 u15 u16 u17 u18 u19 u20 u21 u22 u23 b7 zc5 Zb1 ee hb7
  refine hK5 _ _ ?_
  cases b7
  ·refine wp_cond_false (by kernel_rfl) ?_
   refine wp_skip ?_
   refine hK4 _ _ ?_
   refine wp_seq_k fun K8 hK8 => ?_
   refine wp_seq_k fun K9 hK9 => ?_
   have hjK9 : ∀ (u25 u26 u27 u28 u29 u30 u31 u32 u33 u34 u35 u36 u37 u38 u39 u40 u41 u42 u43 u44 u45 u46 u47 u48 u49 u50 : Value) (b11 : Bool) (zc9 : World), zc9.heap[g2]? = some (.cells (m.cells).toArray 47 (0, 0)) → Below w.heap.size w zc9 → (((decide (m.sl < 0) || decide (m.sl > 1000000)) || ((!(T.uS m.kd)) && (!decide (m.sl = 0)))) || (m.ha && (!(T.uH m.kd)))) = b11 → K9 ⟨#[.agg (m.cells).toArray, .pointer (some ⟨g2, 0, none⟩), .bool false, .int .i64 m.kd, .pointer (some ⟨g2, 0, none⟩), .int .i64 m.kd, u6, u7, u8, u9, u10, u11, u12, u13, u14, u15, u16, u17, u18, u19, u20, u21, u22, u23, .bool false, u25, u26, u27, u28, u29, u30, u31, u32, u33, u34, u35, u36, u37, u38, u39, u40, u41, u42, u43, u44, u45, u46, u47, u48, u49, u50, .bool b11, undef, undef, undef, undef, undef, undef, undef, undef, undef, undef, undef, undef, undef, undef, undef, undef, undef, undef, undef, undef, undef, undef, undef, undef, undef, undef, undef, undef, undef, undef, undef, undef], []⟩ zc9 := by
    clear Zb1 ee
    intro u25 u26 u27 u28 u29 u30 u31 u32 u33 u34 u35 u36 u37 u38 u39 u40 u41 u42 u43 u44 u45 u46 u47 u48 u49 u50 b11 zc9 Zb1 ee hb11
    refine hK9 _ _ ?_
    cases b11
    ·refine wp_cond_false (by kernel_rfl) ?_
     refine wp_skip ?_
     refine hK8 _ _ ?_
     refine wp_seq_k fun K12 hK12 => ?_
     refine wp_seq_k fun K13 hK13 => ?_
     have hjK13 : ∀ (u52 u53 u54 u55 u56 u57 u58 u59 u60 u61 u62 u63 u64 u65 u66 u67 u68 u69 : Value) (b15 : Bool) (zc13 : World), zc13.heap[g2]? = some (.cells (m.cells).toArray 47 (0, 0)) → Below w.heap.size w zc13 → ((m.ha && (!(B.formed m.vn))) || ((!m.ha) && (!decide (m.vr = 0 ∧ m.vn = 0)))) = b15 → K13 ⟨#[.agg (m.cells).toArray, .pointer (some ⟨g2, 0, none⟩), .bool false, .int .i64 m.kd, .pointer (some ⟨g2, 0, none⟩), .int .i64 m.kd, u6, u7, u8, u9, u10, u11, u12, u13, u14, u15, u16, u17, u18, u19, u20, u21, u22, u23, .bool false, u25, u26, u27, u28, u29, u30, u31, u32, u33, u34, u35, u36, u37, u38, u39, u40, u41, u42, u43, u44, u45, u46, u47, u48, u49, u50, .bool false, u52, u53, u54, u55, u56, u57, u58, u59, u60, u61, u62, u63, u64, u65, u66, u67, u68, u69, .bool b15, undef, undef, undef, undef, undef, undef, undef, undef, undef, undef, undef, undef, undef], []⟩ zc13 := by
      clear Zb1 ee
      intro u52 u53 u54 u55 u56 u57 u58 u59 u60 u61 u62 u63 u64 u65 u66 u67 u68 u69 b15 zc13 Zb1 ee hb15
      refine hK13 _ _ ?_
      cases b15
      ·refine wp_cond_false (by kernel_rfl) ?_
       refine wp_skip ?_
       refine hK12 _ _ ?_
       refine wp_seq_k fun K16 hK16 => ?_
       refine wp_seq_k fun K17 hK17 => ?_
       have hjK17 : ∀ (u71 u72 u73 u74 u75 : Value) (b19 : Bool) (zc17 : World), zc17.heap[g2]? = some (.cells (m.cells).toArray 47 (0, 0)) → Below w.heap.size w zc17 → (m.ha || T.uC m.kd) = b19 → K17 ⟨#[.agg (m.cells).toArray, .pointer (some ⟨g2, 0, none⟩), .bool false, .int .i64 m.kd, .pointer (some ⟨g2, 0, none⟩), .int .i64 m.kd, u6, u7, u8, u9, u10, u11, u12, u13, u14, u15, u16, u17, u18, u19, u20, u21, u22, u23, .bool false, u25, u26, u27, u28, u29, u30, u31, u32, u33, u34, u35, u36, u37, u38, u39, u40, u41, u42, u43, u44, u45, u46, u47, u48, u49, u50, .bool false, u52, u53, u54, u55, u56, u57, u58, u59, u60, u61, u62, u63, u64, u65, u66, u67, u68, u69, .bool false, u71, u72, u73, u74, u75, .bool b19, undef, undef, undef, undef, undef, undef, undef], []⟩ zc17 := by
        clear Zb1 ee
        intro u71 u72 u73 u74 u75 b19 zc17 Zb1 ee hb19
        refine hK17 _ _ ?_
        cases b19
        ·refine wp_cond_false (by kernel_rfl) ?_
         refine wp_skip ?_
         refine hK16 _ _ ?_
         refine wp_seq_k fun K20 hK20 => ?_
         refine wp_region_lit ?_
         with_reducible refine wv (.pointer (some ⟨g2, 7, none⟩)) ?_
         try simp only [nP, nN, nA, n0, nS]
         with_reducible refine wg (g2) (7) (m.c.cells) (rowMid Zb1 (7) (partOf 7 (by kernel_rfl))) Tryd.underlying45 ?_
         try simp only [nP, nN, nA, n0, nS]
         with_reducible refine wv (.agg (Cm.zero.cells).toArray) ?_
         try simp only [nP, nN, nA, n0, nS]
         with_reducible refine wc 59 #[.agg (m.c.cells).toArray, .agg (Cm.zero.cells).toArray] (rcs m.c Cm.zero zc17 B0 (Nat.le_trans hB ee.size) (ok.c.below ee hB) CmOk.zero) ?_
         rintro e z2 ⟨rfl, t⟩
         refine ⟨_, rfl, ?_⟩
         have Zb1 := hpB Zb1 t
         have ee := ee.trans (t.mono ee.size)
         clear t
         generalize hb21 : SameC m.c Cm.zero = b21
         try simp only [nP, nN, nA, n0, nS]
         with_reducible refine wv (.bool b21) ?_
         try simp only [nP, nN, nA, n0, nS]
         refine wpList_nil ?_
         refine hK20 _ _ ?_
         refine wp_ret ?_
         cases b21
         ·exact bodyPost_ret (v := .bool false) (by kernel_rfl) rfl ⟨congrArg (fun b => Ending.returned (.bool b)) (show false = m.rfirst from by unfold T.Ms.rfirst; first | (simp only [hb7, hb11, hb15, hb19, hb21]; done) | (simp only [hb7, hb11, hb15, hb19, hb21]; rfl) | simp [hb7, hb11, hb15, hb19, hb21]), ee⟩
         exact bodyPost_ret (v := .bool true) (by kernel_rfl) rfl ⟨congrArg (fun b => Ending.returned (.bool b)) (show true = m.rfirst from by unfold T.Ms.rfirst; first | (simp only [hb7, hb11, hb15, hb19, hb21]; done) | (simp only [hb7, hb11, hb15, hb19, hb21]; rfl) | simp [hb7, hb11, hb15, hb19, hb21]), ee⟩
        refine wp_cond_true (by kernel_rfl) ?_
        refine wp_seq_k fun K22 hK22 => ?_
        refine wp_region_lit ?_
        with_reducible refine wv (.pointer (some ⟨g2, 7, none⟩)) ?_
        try simp only [nP, nN, nA, n0, nS]
        with_reducible refine wg (g2) (7) (m.c.cells) (rowMid Zb1 (7) (partOf 7 (by kernel_rfl))) Tryd.underlying45 ?_
        try simp only [nP, nN, nA, n0, nS]
        with_reducible refine wc 108 #[.agg (m.c.cells).toArray] (rcf m.c zc17 B0 (Nat.le_trans hB ee.size) (ok.c.below ee hB)) ?_
        rintro e z2 ⟨rfl, t⟩
        refine ⟨_, rfl, ?_⟩
        have Zb1 := hpB Zb1 t
        have ee := ee.trans (t.mono ee.size)
        clear t
        generalize hb23 : m.c.formed = b23
        try simp only [nP, nN, nA, n0, nS]
        with_reducible refine wv (.bool b23) ?_
        try simp only [nP, nN, nA, n0, nS]
        refine wpList_nil ?_
        refine hK22 _ _ ?_
        refine wp_ret ?_
        refine then_ret ?_
        cases b23
        ·exact bodyPost_ret (v := .bool false) (by kernel_rfl) rfl ⟨congrArg (fun b => Ending.returned (.bool b)) (show false = m.rfirst from by unfold T.Ms.rfirst; first | (simp only [hb7, hb11, hb15, hb19, hb23]; done) | (simp only [hb7, hb11, hb15, hb19, hb23]; rfl) | simp [hb7, hb11, hb15, hb19, hb23]), ee⟩
        exact bodyPost_ret (v := .bool true) (by kernel_rfl) rfl ⟨congrArg (fun b => Ending.returned (.bool b)) (show true = m.rfirst from by unfold T.Ms.rfirst; first | (simp only [hb7, hb11, hb15, hb19, hb23]; done) | (simp only [hb7, hb11, hb15, hb19, hb23]; rfl) | simp [hb7, hb11, hb15, hb19, hb23]), ee⟩
       refine wp_region_lit ?_
       with_reducible refine wv (.pointer (some ⟨g2, 4, none⟩)) ?_
       try simp only [nP, nN, nA, n0, nS]
       with_reducible refine wl (.bool m.ha) ⟨g2, 4, none⟩ (rowCell Zb1 (4) rfl) Tryd.underlying4 ?_
       generalize hb24 : m.ha = b24
       try simp only [nP, nN, nA, n0, nS]
       with_reducible refine wv (.bool b24) ?_
       try simp only [nP, nN, nA, n0, nS]
       cases b24
       ·with_reducible refine wv (.int .i64 m.kd) ?_
        try simp only [nP, nN, nA, n0, nS]
        with_reducible refine wc 52 #[.int .i64 m.kd, .string ((⟨#[99, 111, 109, 109, 97, 110, 100]⟩ : ByteArray))] (uses_C m.kd zc13) ?_
        rintro e z2 ⟨rfl, hw_⟩
        refine ⟨_, rfl, ?_⟩
        rw [← hw_]
        clear hw_ z2
        generalize hb25 : T.uC m.kd = b25
        try simp only [nP, nN, nA, n0, nS]
        with_reducible refine wv (.bool b25) ?_
        try simp only [nP, nN, nA, n0, nS]
        refine wpList_nil ?_
        exact hjK17 _ _ _ _ _ b25 _ Zb1 ee (by first | (simp only [hb7, hb11, hb15, hb24, hb25]; done) | (simp only [hb7, hb11, hb15, hb24, hb25]; rfl) | simp [hb7, hb11, hb15, hb24, hb25])
       with_reducible refine wk ?_
       try simp only [nP, nN, nA, n0, nS]
       with_reducible refine wk ?_
       try simp only [nP, nN, nA, n0, nS]
       with_reducible refine wv (.bool true) ?_
       try simp only [nP, nN, nA, n0, nS]
       refine wpList_nil ?_
       exact hjK17 _ _ _ _ _ true _ Zb1 ee (by first | (simp only [hb7, hb11, hb15, hb24]; done) | (simp only [hb7, hb11, hb15, hb24]; rfl) | simp [hb7, hb11, hb15, hb24])
      refine wp_cond_true (by kernel_rfl) ?_
      refine wp_seq_k fun K26 hK26 => ?_
      refine wp_region_lit ?_
      with_reducible refine wv (.bool false) ?_
      try simp only [nP, nN, nA, n0, nS]
      refine wpList_nil ?_
      refine hK26 _ _ ?_
      refine wp_ret ?_
      refine then_ret ?_
      exact bodyPost_ret (v := .bool false) (by kernel_rfl) rfl ⟨congrArg (fun b => Ending.returned (.bool b)) (show false = m.rfirst from by unfold T.Ms.rfirst; first | (simp only [hb7, hb11, hb15]; done) | (simp only [hb7, hb11, hb15]; rfl) | simp [hb7, hb11, hb15]), ee⟩
     refine wp_region_lit ?_
     with_reducible refine wv (.pointer (some ⟨g2, 4, none⟩)) ?_
     try simp only [nP, nN, nA, n0, nS]
     with_reducible refine wl (.bool m.ha) ⟨g2, 4, none⟩ (rowCell Zb1 (4) rfl) Tryd.underlying4 ?_
     generalize hb27 : m.ha = b27
     try simp only [nP, nN, nA, n0, nS]
     with_reducible refine wv (.bool b27) ?_
     try simp only [nP, nN, nA, n0, nS]
     cases b27
     ·with_reducible refine wk ?_
      try simp only [nP, nN, nA, n0, nS]
      with_reducible refine wk ?_
      try simp only [nP, nN, nA, n0, nS]
      with_reducible refine wk ?_
      try simp only [nP, nN, nA, n0, nS]
      with_reducible refine wk ?_
      try simp only [nP, nN, nA, n0, nS]
      with_reducible refine wv (.bool false) ?_
      try simp only [nP, nN, nA, n0, nS]
      with_reducible refine wv (.bool false) ?_
      try simp only [nP, nN, nA, n0, nS]
      with_reducible refine wv (.pointer (some ⟨g2, 4, none⟩)) ?_
      try simp only [nP, nN, nA, n0, nS]
      with_reducible refine wl (.bool m.ha) ⟨g2, 4, none⟩ (rowCell Zb1 (4) rfl) Tryd.underlying4 ?_
      rw [hb27]
      try simp only [nP, nN, nA, n0, nS]
      with_reducible refine wv (.bool true) ?_
      try simp only [nP, nN, nA, n0, nS]
      with_reducible refine wv (.bool true) ?_
      try simp only [nP, nN, nA, n0, nS]
      with_reducible refine wv (.pointer (some ⟨g2, 5, none⟩)) ?_
      try simp only [nP, nN, nA, n0, nS]
      with_reducible refine wg (g2) (5) ([.int .u32 (m.vr : Int), .int .i64 m.vn]) (rowMid Zb1 (5) (partOf 5 (by kernel_rfl))) Tryd.underlying44 ?_
      try simp only [nP, nN, nA, n0, nS]
      with_reducible refine wv (.agg ([.int .u32 0, .int .i64 0]).toArray) ?_
      try simp only [nP, nN, nA, n0, nS]
      obtain ⟨b28, hb28⟩ : ∃ d_ : Bool, (decide (m.vr = 0 ∧ m.vn = 0)) = d_ := ⟨_, rfl⟩
      cases b28
      ·with_reducible refine wb (.bool true) (.agg ([.int .u32 (m.vr : Int), .int .i64 m.vn]).toArray) (.agg ([.int .u32 0, .int .i64 0]).toArray) 44 (run_neOfEq (by have := B.run_eqRBal m.vr m.vn 0 0 zc9; rw [hb28] at this; exact this)) ?_
       try simp only [nP, nN, nA, n0, nS]
       with_reducible refine wv (.bool true) ?_
       try simp only [nP, nN, nA, n0, nS]
       with_reducible refine wv (.bool true) ?_
       try simp only [nP, nN, nA, n0, nS]
       refine wpList_nil ?_
       exact hjK13 _ _ _ _ _ _ _ _ _ _ _ _ _ _ _ _ _ _ true _ Zb1 ee (by first | (simp only [hb7, hb11, hb27, hb28]; done) | (simp only [hb7, hb11, hb27, hb28]; rfl) | simp [hb7, hb11, hb27, hb28])
      with_reducible refine wb (.bool false) (.agg ([.int .u32 (m.vr : Int), .int .i64 m.vn]).toArray) (.agg ([.int .u32 0, .int .i64 0]).toArray) 44 (run_neOfEq (by have := B.run_eqRBal m.vr m.vn 0 0 zc9; rw [hb28] at this; exact this)) ?_
      try simp only [nP, nN, nA, n0, nS]
      with_reducible refine wv (.bool false) ?_
      try simp only [nP, nN, nA, n0, nS]
      with_reducible refine wv (.bool false) ?_
      try simp only [nP, nN, nA, n0, nS]
      refine wpList_nil ?_
      exact hjK13 _ _ _ _ _ _ _ _ _ _ _ _ _ _ _ _ _ _ false _ Zb1 ee (by first | (simp only [hb7, hb11, hb27, hb28]; done) | (simp only [hb7, hb11, hb27, hb28]; rfl) | simp [hb7, hb11, hb27, hb28])
     with_reducible refine wv (.pointer (some ⟨g2, 5, none⟩)) ?_
     try simp only [nP, nN, nA, n0, nS]
     with_reducible refine wg (g2) (5) ([.int .u32 (m.vr : Int), .int .i64 m.vn]) (rowMid Zb1 (5) (partOf 5 (by kernel_rfl))) Tryd.underlying44 ?_
     try simp only [nP, nN, nA, n0, nS]
     with_reducible refine wc 107 #[.agg ([.int .u32 (m.vr : Int), .int .i64 m.vn]).toArray] (rbf m.vr m.vn zc9) ?_
     rintro e z2 ⟨rfl, t⟩
     refine ⟨_, rfl, ?_⟩
     have Zb1 := hpB Zb1 t
     have ee := ee.trans (t.mono ee.size)
     clear t
     generalize hb29 : B.formed m.vn = b29
     try simp only [nP, nN, nA, n0, nS]
     cases b29
     ·with_reducible refine wv (.bool true) ?_
      try simp only [nP, nN, nA, n0, nS]
      with_reducible refine wv (.bool true) ?_
      try simp only [nP, nN, nA, n0, nS]
      with_reducible refine wv (.bool true) ?_
      try simp only [nP, nN, nA, n0, nS]
      with_reducible refine wk ?_
      try simp only [nP, nN, nA, n0, nS]
      with_reducible refine wk ?_
      try simp only [nP, nN, nA, n0, nS]
      with_reducible refine wk ?_
      try simp only [nP, nN, nA, n0, nS]
      with_reducible refine wk ?_
      try simp only [nP, nN, nA, n0, nS]
      with_reducible refine wk ?_
      try simp only [nP, nN, nA, n0, nS]
      with_reducible refine wk ?_
      try simp only [nP, nN, nA, n0, nS]
      with_reducible refine wk ?_
      try simp only [nP, nN, nA, n0, nS]
      with_reducible refine wk ?_
      try simp only [nP, nN, nA, n0, nS]
      with_reducible refine wk ?_
      try simp only [nP, nN, nA, n0, nS]
      with_reducible refine wv (.bool true) ?_
      try simp only [nP, nN, nA, n0, nS]
      refine wpList_nil ?_
      exact hjK13 _ _ _ _ _ _ _ _ _ _ _ _ _ _ _ _ _ _ true _ Zb1 ee (by first | (simp only [hb7, hb11, hb27, hb29]; done) | (simp only [hb7, hb11, hb27, hb29]; rfl) | simp [hb7, hb11, hb27, hb29])
     with_reducible refine wv (.bool false) ?_
     try simp only [nP, nN, nA, n0, nS]
     with_reducible refine wv (.bool false) ?_
     try simp only [nP, nN, nA, n0, nS]
     with_reducible refine wv (.bool false) ?_
     try simp only [nP, nN, nA, n0, nS]
     with_reducible refine wv (.pointer (some ⟨g2, 4, none⟩)) ?_
     try simp only [nP, nN, nA, n0, nS]
     with_reducible refine wl (.bool m.ha) ⟨g2, 4, none⟩ (rowCell Zb1 (4) rfl) Tryd.underlying4 ?_
     rw [hb27]
     try simp only [nP, nN, nA, n0, nS]
     with_reducible refine wv (.bool false) ?_
     try simp only [nP, nN, nA, n0, nS]
     with_reducible refine wv (.bool false) ?_
     try simp only [nP, nN, nA, n0, nS]
     with_reducible refine wk ?_
     try simp only [nP, nN, nA, n0, nS]
     with_reducible refine wk ?_
     try simp only [nP, nN, nA, n0, nS]
     with_reducible refine wk ?_
     try simp only [nP, nN, nA, n0, nS]
     with_reducible refine wk ?_
     try simp only [nP, nN, nA, n0, nS]
     with_reducible refine wv (.bool false) ?_
     try simp only [nP, nN, nA, n0, nS]
     with_reducible refine wv (.bool false) ?_
     try simp only [nP, nN, nA, n0, nS]
     refine wpList_nil ?_
     exact hjK13 _ _ _ _ _ _ _ _ _ _ _ _ _ _ _ _ _ _ false _ Zb1 ee (by first | (simp only [hb7, hb11, hb27, hb29]; done) | (simp only [hb7, hb11, hb27, hb29]; rfl) | simp [hb7, hb11, hb27, hb29])
    refine wp_cond_true (by kernel_rfl) ?_
    refine wp_seq_k fun K30 hK30 => ?_
    refine wp_region_lit ?_
    with_reducible refine wv (.bool false) ?_
    try simp only [nP, nN, nA, n0, nS]
    refine wpList_nil ?_
    refine hK30 _ _ ?_
    refine wp_ret ?_
    refine then_ret ?_
    exact bodyPost_ret (v := .bool false) (by kernel_rfl) rfl ⟨congrArg (fun b => Ending.returned (.bool b)) (show false = m.rfirst from by unfold T.Ms.rfirst; first | (simp only [hb7, hb11]; done) | (simp only [hb7, hb11]; rfl) | simp [hb7, hb11]), ee⟩
   refine wp_region_lit ?_
   with_reducible refine wv (.pointer (some ⟨g2, 3, none⟩)) ?_
   try simp only [nP, nN, nA, n0, nS]
   with_reducible refine wl (.int .i64 m.sl) ⟨g2, 3, none⟩ (rowCell Zb1 (3) rfl) Tryd.underlying3 ?_
   try simp only [nP, nN, nA, n0, nS]
   obtain ⟨b31, hb31⟩ : ∃ d_ : Bool, (decide (m.sl < 0)) = d_ := ⟨_, rfl⟩
   with_reducible refine wb (.bool b31) (.int .i64 m.sl) (.int .i64 0) 3 (run_lssI hb31) ?_
   try simp only [nP, nN, nA, n0, nS]
   with_reducible refine wv (.bool b31) ?_
   try simp only [nP, nN, nA, n0, nS]
   cases b31
   ·have pb31 : ¬ (m.sl < 0) := of_decide_eq_false hb31
    with_reducible refine wv (.pointer (some ⟨g2, 3, none⟩)) ?_
    try simp only [nP, nN, nA, n0, nS]
    with_reducible refine wl (.int .i64 m.sl) ⟨g2, 3, none⟩ (rowCell Zb1 (3) rfl) Tryd.underlying3 ?_
    try simp only [nP, nN, nA, n0, nS]
    obtain ⟨b32, hb32⟩ : ∃ d_ : Bool, (decide (m.sl > 1000000)) = d_ := ⟨_, rfl⟩
    with_reducible refine wb (.bool b32) (.int .i64 m.sl) (.int .i64 1000000) 3 (run_gtrI hb32) ?_
    try simp only [nP, nN, nA, n0, nS]
    with_reducible refine wv (.bool b32) ?_
    try simp only [nP, nN, nA, n0, nS]
    with_reducible refine wv (.bool b32) ?_
    try simp only [nP, nN, nA, n0, nS]
    cases b32
    ·have pb32 : ¬ (m.sl > 1000000) := of_decide_eq_false hb32
     with_reducible refine wv (.int .i64 m.kd) ?_
     try simp only [nP, nN, nA, n0, nS]
     with_reducible refine wc 52 #[.int .i64 m.kd, .string ((⟨#[115, 108, 111, 116]⟩ : ByteArray))] (uses_S m.kd zc5) ?_
     rintro e z2 ⟨rfl, hw_⟩
     refine ⟨_, rfl, ?_⟩
     rw [← hw_]
     clear hw_ z2
     generalize hb33 : T.uS m.kd = b33
     try simp only [nP, nN, nA, n0, nS]
     cases b33
     ·with_reducible refine wv (.bool true) ?_
      try simp only [nP, nN, nA, n0, nS]
      with_reducible refine wv (.bool true) ?_
      try simp only [nP, nN, nA, n0, nS]
      with_reducible refine wv (.pointer (some ⟨g2, 3, none⟩)) ?_
      try simp only [nP, nN, nA, n0, nS]
      with_reducible refine wl (.int .i64 m.sl) ⟨g2, 3, none⟩ (rowCell Zb1 (3) rfl) Tryd.underlying3 ?_
      try simp only [nP, nN, nA, n0, nS]
      obtain ⟨b34, hb34⟩ : ∃ d_ : Bool, (decide (m.sl = 0)) = d_ := ⟨_, rfl⟩
      cases b34
      ·have pb34 : ¬ (m.sl = 0) := of_decide_eq_false hb34
       with_reducible refine wb (.bool true) (.int .i64 m.sl) (.int .i64 0) 3 (run_neqI hb34) ?_
       try simp only [nP, nN, nA, n0, nS]
       with_reducible refine wv (.bool true) ?_
       try simp only [nP, nN, nA, n0, nS]
       with_reducible refine wv (.bool true) ?_
       try simp only [nP, nN, nA, n0, nS]
       with_reducible refine wv (.bool true) ?_
       try simp only [nP, nN, nA, n0, nS]
       with_reducible refine wk ?_
       try simp only [nP, nN, nA, n0, nS]
       with_reducible refine wk ?_
       try simp only [nP, nN, nA, n0, nS]
       with_reducible refine wk ?_
       try simp only [nP, nN, nA, n0, nS]
       with_reducible refine wk ?_
       try simp only [nP, nN, nA, n0, nS]
       with_reducible refine wk ?_
       try simp only [nP, nN, nA, n0, nS]
       with_reducible refine wk ?_
       try simp only [nP, nN, nA, n0, nS]
       with_reducible refine wk ?_
       try simp only [nP, nN, nA, n0, nS]
       with_reducible refine wv (.bool true) ?_
       try simp only [nP, nN, nA, n0, nS]
       refine wpList_nil ?_
       exact hjK9 _ _ _ _ _ _ _ _ _ _ _ _ _ _ _ _ _ _ _ _ _ _ _ _ _ _ true _ Zb1 ee (by first | (simp only [hb7, hb31, hb32, hb33, hb34]; done) | (simp only [hb7, hb31, hb32, hb33, hb34]; rfl) | simp [hb7, hb31, hb32, hb33, hb34])
      have pb34 : m.sl = 0 := of_decide_eq_true hb34
      have eb34 : m.sl = 0 := of_decide_eq_true hb34
      with_reducible refine wb (.bool false) (.int .i64 m.sl) (.int .i64 0) 3 (run_neqI hb34) ?_
      try simp only [nP, nN, nA, n0, nS]
      with_reducible refine wv (.bool false) ?_
      try simp only [nP, nN, nA, n0, nS]
      with_reducible refine wv (.bool false) ?_
      try simp only [nP, nN, nA, n0, nS]
      with_reducible refine wv (.bool false) ?_
      try simp only [nP, nN, nA, n0, nS]
      with_reducible refine wv (.pointer (some ⟨g2, 4, none⟩)) ?_
      try simp only [nP, nN, nA, n0, nS]
      with_reducible refine wl (.bool m.ha) ⟨g2, 4, none⟩ (rowCell Zb1 (4) rfl) Tryd.underlying4 ?_
      generalize hb35 : m.ha = b35
      try simp only [nP, nN, nA, n0, nS]
      with_reducible refine wv (.bool b35) ?_
      try simp only [nP, nN, nA, n0, nS]
      cases b35
      ·with_reducible refine wk ?_
       try simp only [nP, nN, nA, n0, nS]
       with_reducible refine wk ?_
       try simp only [nP, nN, nA, n0, nS]
       with_reducible refine wk ?_
       try simp only [nP, nN, nA, n0, nS]
       with_reducible refine wv (.bool false) ?_
       try simp only [nP, nN, nA, n0, nS]
       with_reducible refine wv (.bool false) ?_
       try simp only [nP, nN, nA, n0, nS]
       refine wpList_nil ?_
       exact hjK9 _ _ _ _ _ _ _ _ _ _ _ _ _ _ _ _ _ _ _ _ _ _ _ _ _ _ false _ Zb1 ee (by first | (simp only [hb7, hb31, hb32, hb33, hb34, hb35]; done) | (simp only [hb7, hb31, hb32, hb33, hb34, hb35]; rfl) | simp [hb7, hb31, hb32, hb33, hb34, hb35])
      with_reducible refine wv (.int .i64 m.kd) ?_
      try simp only [nP, nN, nA, n0, nS]
      with_reducible refine wc 52 #[.int .i64 m.kd, .string ((⟨#[104, 97, 115]⟩ : ByteArray))] (uses_H m.kd zc5) ?_
      rintro e z3 ⟨rfl, hw_⟩
      refine ⟨_, rfl, ?_⟩
      rw [← hw_]
      clear hw_ z3
      generalize hb36 : T.uH m.kd = b36
      try simp only [nP, nN, nA, n0, nS]
      cases b36
      ·with_reducible refine wv (.bool true) ?_
       try simp only [nP, nN, nA, n0, nS]
       with_reducible refine wv (.bool true) ?_
       try simp only [nP, nN, nA, n0, nS]
       with_reducible refine wv (.bool true) ?_
       try simp only [nP, nN, nA, n0, nS]
       refine wpList_nil ?_
       exact hjK9 _ _ _ _ _ _ _ _ _ _ _ _ _ _ _ _ _ _ _ _ _ _ _ _ _ _ true _ Zb1 ee (by first | (simp only [hb7, hb31, hb32, hb33, hb34, hb35, hb36]; done) | (simp only [hb7, hb31, hb32, hb33, hb34, hb35, hb36]; rfl) | simp [hb7, hb31, hb32, hb33, hb34, hb35, hb36])
      with_reducible refine wv (.bool false) ?_
      try simp only [nP, nN, nA, n0, nS]
      with_reducible refine wv (.bool false) ?_
      try simp only [nP, nN, nA, n0, nS]
      with_reducible refine wv (.bool false) ?_
      try simp only [nP, nN, nA, n0, nS]
      refine wpList_nil ?_
      exact hjK9 _ _ _ _ _ _ _ _ _ _ _ _ _ _ _ _ _ _ _ _ _ _ _ _ _ _ false _ Zb1 ee (by first | (simp only [hb7, hb31, hb32, hb33, hb34, hb35, hb36]; done) | (simp only [hb7, hb31, hb32, hb33, hb34, hb35, hb36]; rfl) | simp [hb7, hb31, hb32, hb33, hb34, hb35, hb36])
     with_reducible refine wv (.bool false) ?_
     try simp only [nP, nN, nA, n0, nS]
     with_reducible refine wv (.bool false) ?_
     try simp only [nP, nN, nA, n0, nS]
     with_reducible refine wk ?_
     try simp only [nP, nN, nA, n0, nS]
     with_reducible refine wk ?_
     try simp only [nP, nN, nA, n0, nS]
     with_reducible refine wk ?_
     try simp only [nP, nN, nA, n0, nS]
     with_reducible refine wv (.bool false) ?_
     try simp only [nP, nN, nA, n0, nS]
     with_reducible refine wv (.bool false) ?_
     try simp only [nP, nN, nA, n0, nS]
     with_reducible refine wv (.bool false) ?_
     try simp only [nP, nN, nA, n0, nS]
     with_reducible refine wv (.pointer (some ⟨g2, 4, none⟩)) ?_
     try simp only [nP, nN, nA, n0, nS]
     with_reducible refine wl (.bool m.ha) ⟨g2, 4, none⟩ (rowCell Zb1 (4) rfl) Tryd.underlying4 ?_
     generalize hb37 : m.ha = b37
     try simp only [nP, nN, nA, n0, nS]
     with_reducible refine wv (.bool b37) ?_
     try simp only [nP, nN, nA, n0, nS]
     cases b37
     ·with_reducible refine wk ?_
      try simp only [nP, nN, nA, n0, nS]
      with_reducible refine wk ?_
      try simp only [nP, nN, nA, n0, nS]
      with_reducible refine wk ?_
      try simp only [nP, nN, nA, n0, nS]
      with_reducible refine wv (.bool false) ?_
      try simp only [nP, nN, nA, n0, nS]
      with_reducible refine wv (.bool false) ?_
      try simp only [nP, nN, nA, n0, nS]
      refine wpList_nil ?_
      exact hjK9 _ _ _ _ _ _ _ _ _ _ _ _ _ _ _ _ _ _ _ _ _ _ _ _ _ _ false _ Zb1 ee (by first | (simp only [hb7, hb31, hb32, hb33, hb37]; done) | (simp only [hb7, hb31, hb32, hb33, hb37]; rfl) | simp [hb7, hb31, hb32, hb33, hb37])
     with_reducible refine wv (.int .i64 m.kd) ?_
     try simp only [nP, nN, nA, n0, nS]
     with_reducible refine wc 52 #[.int .i64 m.kd, .string ((⟨#[104, 97, 115]⟩ : ByteArray))] (uses_H m.kd zc5) ?_
     rintro e z3 ⟨rfl, hw_⟩
     refine ⟨_, rfl, ?_⟩
     rw [← hw_]
     clear hw_ z3
     generalize hb38 : T.uH m.kd = b38
     try simp only [nP, nN, nA, n0, nS]
     cases b38
     ·with_reducible refine wv (.bool true) ?_
      try simp only [nP, nN, nA, n0, nS]
      with_reducible refine wv (.bool true) ?_
      try simp only [nP, nN, nA, n0, nS]
      with_reducible refine wv (.bool true) ?_
      try simp only [nP, nN, nA, n0, nS]
      refine wpList_nil ?_
      exact hjK9 _ _ _ _ _ _ _ _ _ _ _ _ _ _ _ _ _ _ _ _ _ _ _ _ _ _ true _ Zb1 ee (by first | (simp only [hb7, hb31, hb32, hb33, hb37, hb38]; done) | (simp only [hb7, hb31, hb32, hb33, hb37, hb38]; rfl) | simp [hb7, hb31, hb32, hb33, hb37, hb38])
     with_reducible refine wv (.bool false) ?_
     try simp only [nP, nN, nA, n0, nS]
     with_reducible refine wv (.bool false) ?_
     try simp only [nP, nN, nA, n0, nS]
     with_reducible refine wv (.bool false) ?_
     try simp only [nP, nN, nA, n0, nS]
     refine wpList_nil ?_
     exact hjK9 _ _ _ _ _ _ _ _ _ _ _ _ _ _ _ _ _ _ _ _ _ _ _ _ _ _ false _ Zb1 ee (by first | (simp only [hb7, hb31, hb32, hb33, hb37, hb38]; done) | (simp only [hb7, hb31, hb32, hb33, hb37, hb38]; rfl) | simp [hb7, hb31, hb32, hb33, hb37, hb38])
    have pb32 : m.sl > 1000000 := of_decide_eq_true hb32
    with_reducible refine wk ?_
    try simp only [nP, nN, nA, n0, nS]
    with_reducible refine wk ?_
    try simp only [nP, nN, nA, n0, nS]
    with_reducible refine wk ?_
    try simp only [nP, nN, nA, n0, nS]
    with_reducible refine wk ?_
    try simp only [nP, nN, nA, n0, nS]
    with_reducible refine wk ?_
    try simp only [nP, nN, nA, n0, nS]
    with_reducible refine wk ?_
    try simp only [nP, nN, nA, n0, nS]
    with_reducible refine wk ?_
    try simp only [nP, nN, nA, n0, nS]
    with_reducible refine wk ?_
    try simp only [nP, nN, nA, n0, nS]
    with_reducible refine wv (.bool true) ?_
    try simp only [nP, nN, nA, n0, nS]
    with_reducible refine wv (.bool true) ?_
    try simp only [nP, nN, nA, n0, nS]
    with_reducible refine wk ?_
    try simp only [nP, nN, nA, n0, nS]
    with_reducible refine wk ?_
    try simp only [nP, nN, nA, n0, nS]
    with_reducible refine wk ?_
    try simp only [nP, nN, nA, n0, nS]
    with_reducible refine wk ?_
    try simp only [nP, nN, nA, n0, nS]
    with_reducible refine wk ?_
    try simp only [nP, nN, nA, n0, nS]
    with_reducible refine wk ?_
    try simp only [nP, nN, nA, n0, nS]
    with_reducible refine wk ?_
    try simp only [nP, nN, nA, n0, nS]
    with_reducible refine wv (.bool true) ?_
    try simp only [nP, nN, nA, n0, nS]
    refine wpList_nil ?_
    exact hjK9 _ _ _ _ _ _ _ _ _ _ _ _ _ _ _ _ _ _ _ _ _ _ _ _ _ _ true _ Zb1 ee (by first | (simp only [hb7, hb31, hb32]; done) | (simp only [hb7, hb31, hb32]; rfl) | simp [hb7, hb31, hb32])
   have pb31 : m.sl < 0 := of_decide_eq_true hb31
   with_reducible refine wk ?_
   try simp only [nP, nN, nA, n0, nS]
   with_reducible refine wk ?_
   try simp only [nP, nN, nA, n0, nS]
   with_reducible refine wk ?_
   try simp only [nP, nN, nA, n0, nS]
   with_reducible refine wv (.bool true) ?_
   try simp only [nP, nN, nA, n0, nS]
   with_reducible refine wv (.bool true) ?_
   try simp only [nP, nN, nA, n0, nS]
   with_reducible refine wk ?_
   try simp only [nP, nN, nA, n0, nS]
   with_reducible refine wk ?_
   try simp only [nP, nN, nA, n0, nS]
   with_reducible refine wk ?_
   try simp only [nP, nN, nA, n0, nS]
   with_reducible refine wk ?_
   try simp only [nP, nN, nA, n0, nS]
   with_reducible refine wk ?_
   try simp only [nP, nN, nA, n0, nS]
   with_reducible refine wk ?_
   try simp only [nP, nN, nA, n0, nS]
   with_reducible refine wk ?_
   try simp only [nP, nN, nA, n0, nS]
   with_reducible refine wk ?_
   try simp only [nP, nN, nA, n0, nS]
   with_reducible refine wv (.bool true) ?_
   try simp only [nP, nN, nA, n0, nS]
   with_reducible refine wv (.bool true) ?_
   try simp only [nP, nN, nA, n0, nS]
   with_reducible refine wk ?_
   try simp only [nP, nN, nA, n0, nS]
   with_reducible refine wk ?_
   try simp only [nP, nN, nA, n0, nS]
   with_reducible refine wk ?_
   try simp only [nP, nN, nA, n0, nS]
   with_reducible refine wk ?_
   try simp only [nP, nN, nA, n0, nS]
   with_reducible refine wk ?_
   try simp only [nP, nN, nA, n0, nS]
   with_reducible refine wk ?_
   try simp only [nP, nN, nA, n0, nS]
   with_reducible refine wk ?_
   try simp only [nP, nN, nA, n0, nS]
   with_reducible refine wv (.bool true) ?_
   try simp only [nP, nN, nA, n0, nS]
   refine wpList_nil ?_
   exact hjK9 _ _ _ _ _ _ _ _ _ _ _ _ _ _ _ _ _ _ _ _ _ _ _ _ _ _ true _ Zb1 ee (by first | (simp only [hb7, hb31]; done) | (simp only [hb7, hb31]; rfl) | simp [hb7, hb31])
  refine wp_cond_true (by kernel_rfl) ?_
  refine wp_seq_k fun K39 hK39 => ?_
  refine wp_region_lit ?_
  with_reducible refine wv (.bool false) ?_
  try simp only [nP, nN, nA, n0, nS]
  refine wpList_nil ?_
  refine hK39 _ _ ?_
  refine wp_ret ?_
  refine then_ret ?_
  exact bodyPost_ret (v := .bool false) (by kernel_rfl) rfl ⟨congrArg (fun b => Ending.returned (.bool b)) (show false = m.rfirst from by unfold T.Ms.rfirst; first | (simp only [hb7]; done) | (simp only [hb7]; rfl) | simp [hb7]), ee⟩
 refine wp_region_lit ?_
 with_reducible refine wv (.int .i64 m.kd) ?_
 try simp only [nP, nN, nA, n0, nS]
 with_reducible refine wc 52 #[.int .i64 m.kd, .string ((⟨#[98, 97, 108, 108, 111, 116]⟩ : ByteArray))] (uses_B m.kd z1) ?_
 rintro e z2 ⟨rfl, hw_⟩
 refine ⟨_, rfl, ?_⟩
 rw [← hw_]
 clear hw_ z2
 generalize hb40 : T.uB m.kd = b40
 try simp only [nP, nN, nA, n0, nS]
 with_reducible refine wv (.bool b40) ?_
 try simp only [nP, nN, nA, n0, nS]
 cases b40
 ·with_reducible refine wk ?_
  try simp only [nP, nN, nA, n0, nS]
  with_reducible refine wk ?_
  try simp only [nP, nN, nA, n0, nS]
  with_reducible refine wk ?_
  try simp only [nP, nN, nA, n0, nS]
  with_reducible refine wk ?_
  try simp only [nP, nN, nA, n0, nS]
  with_reducible refine wv (.bool false) ?_
  try simp only [nP, nN, nA, n0, nS]
  with_reducible refine wv (.bool false) ?_
  try simp only [nP, nN, nA, n0, nS]
  with_reducible refine wv (.int .i64 m.kd) ?_
  try simp only [nP, nN, nA, n0, nS]
  with_reducible refine wc 52 #[.int .i64 m.kd, .string ((⟨#[98, 97, 108, 108, 111, 116]⟩ : ByteArray))] (uses_B m.kd z1) ?_
  rintro e z3 ⟨rfl, hw_⟩
  refine ⟨_, rfl, ?_⟩
  rw [← hw_]
  clear hw_ z3
  rw [hb40]
  try simp only [nP, nN, nA, n0, nS]
  with_reducible refine wv (.bool true) ?_
  try simp only [nP, nN, nA, n0, nS]
  with_reducible refine wv (.bool true) ?_
  try simp only [nP, nN, nA, n0, nS]
  with_reducible refine wv (.pointer (some ⟨g2, 1, none⟩)) ?_
  try simp only [nP, nN, nA, n0, nS]
  with_reducible refine wg (g2) (1) ([.int .u32 (m.br : Int), .int .i64 m.bn]) (rowMid Zb1 (1) (partOf 1 (by kernel_rfl))) Tryd.underlying44 ?_
  try simp only [nP, nN, nA, n0, nS]
  with_reducible refine wv (.agg ([.int .u32 0, .int .i64 0]).toArray) ?_
  try simp only [nP, nN, nA, n0, nS]
  obtain ⟨b41, hb41⟩ : ∃ d_ : Bool, (decide (m.br = 0 ∧ m.bn = 0)) = d_ := ⟨_, rfl⟩
  cases b41
  ·with_reducible refine wb (.bool true) (.agg ([.int .u32 (m.br : Int), .int .i64 m.bn]).toArray) (.agg ([.int .u32 0, .int .i64 0]).toArray) 44 (run_neOfEq (by have := B.run_eqRBal m.br m.bn 0 0 z1; rw [hb41] at this; exact this)) ?_
   try simp only [nP, nN, nA, n0, nS]
   with_reducible refine wv (.bool true) ?_
   try simp only [nP, nN, nA, n0, nS]
   with_reducible refine wv (.bool true) ?_
   try simp only [nP, nN, nA, n0, nS]
   refine wpList_nil ?_
   exact hjK5 _ _ _ _ _ _ _ _ _ _ _ _ _ _ _ _ _ _ true _ Zb1 ee (by first | (simp only [hb40, hb41]; done) | (simp only [hb40, hb41]; rfl) | simp [hb40, hb41])
  with_reducible refine wb (.bool false) (.agg ([.int .u32 (m.br : Int), .int .i64 m.bn]).toArray) (.agg ([.int .u32 0, .int .i64 0]).toArray) 44 (run_neOfEq (by have := B.run_eqRBal m.br m.bn 0 0 z1; rw [hb41] at this; exact this)) ?_
  try simp only [nP, nN, nA, n0, nS]
  with_reducible refine wv (.bool false) ?_
  try simp only [nP, nN, nA, n0, nS]
  with_reducible refine wv (.bool false) ?_
  try simp only [nP, nN, nA, n0, nS]
  refine wpList_nil ?_
  exact hjK5 _ _ _ _ _ _ _ _ _ _ _ _ _ _ _ _ _ _ false _ Zb1 ee (by first | (simp only [hb40, hb41]; done) | (simp only [hb40, hb41]; rfl) | simp [hb40, hb41])
 with_reducible refine wv (.pointer (some ⟨g2, 1, none⟩)) ?_
 try simp only [nP, nN, nA, n0, nS]
 with_reducible refine wg (g2) (1) ([.int .u32 (m.br : Int), .int .i64 m.bn]) (rowMid Zb1 (1) (partOf 1 (by kernel_rfl))) Tryd.underlying44 ?_
 try simp only [nP, nN, nA, n0, nS]
 with_reducible refine wc 107 #[.agg ([.int .u32 (m.br : Int), .int .i64 m.bn]).toArray] (rbf m.br m.bn z1) ?_
 rintro e z3 ⟨rfl, t⟩
 refine ⟨_, rfl, ?_⟩
 have Zb1 := hpB Zb1 t
 have ee := ee.trans (t.mono ee.size)
 clear t
 generalize hb42 : B.formed m.bn = b42
 try simp only [nP, nN, nA, n0, nS]
 cases b42
 ·with_reducible refine wv (.bool true) ?_
  try simp only [nP, nN, nA, n0, nS]
  with_reducible refine wv (.bool true) ?_
  try simp only [nP, nN, nA, n0, nS]
  with_reducible refine wv (.bool true) ?_
  try simp only [nP, nN, nA, n0, nS]
  with_reducible refine wk ?_
  try simp only [nP, nN, nA, n0, nS]
  with_reducible refine wk ?_
  try simp only [nP, nN, nA, n0, nS]
  with_reducible refine wk ?_
  try simp only [nP, nN, nA, n0, nS]
  with_reducible refine wk ?_
  try simp only [nP, nN, nA, n0, nS]
  with_reducible refine wk ?_
  try simp only [nP, nN, nA, n0, nS]
  with_reducible refine wk ?_
  try simp only [nP, nN, nA, n0, nS]
  with_reducible refine wk ?_
  try simp only [nP, nN, nA, n0, nS]
  with_reducible refine wk ?_
  try simp only [nP, nN, nA, n0, nS]
  with_reducible refine wk ?_
  try simp only [nP, nN, nA, n0, nS]
  with_reducible refine wv (.bool true) ?_
  try simp only [nP, nN, nA, n0, nS]
  refine wpList_nil ?_
  exact hjK5 _ _ _ _ _ _ _ _ _ _ _ _ _ _ _ _ _ _ true _ Zb1 ee (by first | (simp only [hb40, hb42]; done) | (simp only [hb40, hb42]; rfl) | simp [hb40, hb42])
 with_reducible refine wv (.bool false) ?_
 try simp only [nP, nN, nA, n0, nS]
 with_reducible refine wv (.bool false) ?_
 try simp only [nP, nN, nA, n0, nS]
 with_reducible refine wv (.bool false) ?_
 try simp only [nP, nN, nA, n0, nS]
 with_reducible refine wv (.int .i64 m.kd) ?_
 try simp only [nP, nN, nA, n0, nS]
 with_reducible refine wc 52 #[.int .i64 m.kd, .string ((⟨#[98, 97, 108, 108, 111, 116]⟩ : ByteArray))] (uses_B m.kd z3) ?_
 rintro e z4 ⟨rfl, hw_⟩
 refine ⟨_, rfl, ?_⟩
 rw [← hw_]
 clear hw_ z4
 rw [hb40]
 try simp only [nP, nN, nA, n0, nS]
 with_reducible refine wv (.bool false) ?_
 try simp only [nP, nN, nA, n0, nS]
 with_reducible refine wv (.bool false) ?_
 try simp only [nP, nN, nA, n0, nS]
 with_reducible refine wk ?_
 try simp only [nP, nN, nA, n0, nS]
 with_reducible refine wk ?_
 try simp only [nP, nN, nA, n0, nS]
 with_reducible refine wk ?_
 try simp only [nP, nN, nA, n0, nS]
 with_reducible refine wk ?_
 try simp only [nP, nN, nA, n0, nS]
 with_reducible refine wv (.bool false) ?_
 try simp only [nP, nN, nA, n0, nS]
 with_reducible refine wv (.bool false) ?_
 try simp only [nP, nN, nA, n0, nS]
 refine wpList_nil ?_
 exact hjK5 _ _ _ _ _ _ _ _ _ _ _ _ _ _ _ _ _ _ false _ Zb1 ee (by first | (simp only [hb40, hb42]; done) | (simp only [hb40, hb42]; rfl) | simp [hb40, hb42])
/-- the reference's second -/
def T.Ms.rsecond (m : Ms) : Bool := (bif ((T.uT m.kd && (!m.t.formed)) || ((!(T.uT m.kd)) && (!(SameT m.t Tn.zero)))) then false else (bif ((T.uI m.kd && (!(idb m.ii m.ij))) || ((!(T.uI m.kd)) && (!decide (m.ii = 0 ∧ m.ij = 0)))) then false else (bif ((((decide (m.g < 0) || decide (m.g ≥ 4)) || ((!(T.uG m.kd)) && (!decide (m.g = 0)))) || ((!(T.uP m.kd)) && (!decide ((m.st : Int) = 0)))) || (m.ye && (!(T.uY m.kd)))) then false else ((decide (m.nu ≥ 0) && decide (m.nu ≤ 2147483647)) && (T.uN m.kd || decide (m.nu = 0))))))
set_option maxHeartbeats 25600000 in
theorem rsecond_any (m : Ms) (w : World) (B0 : Nat) (hB : B0 ≤ w.heap.size) (ok : MsOk w B0 m) :
  Calls Tryd.prog 51 #[.agg m.cells.toArray] w fun e w' => e = .returned (.bool m.rsecond) ∧ Below w.heap.size w w' := by
 have ee : Below w.heap.size w w := Below.refl _ _
 go_enter Tryd.func51, Tryd.ntmps51
 refine wp_seq_k fun K1 hK1 => ?_
 refine wp_region_lit ?_
 with_reducible refine ww (.pointer (some ⟨w.heap.size, 0, none⟩)) (w.alloc (.cells (m.cells).toArray 47)) ?_
 try simp only [nP, nN, nA, n0, nS]
 have sz_g2 := ee.size
 have sz_ := ee.size
 have ee := ee.alloc ee.size (.cells (m.cells).toArray 47)
 have Zb1 := hpN w (.cells (m.cells).toArray 47) rfl
 generalize w.alloc (.cells (m.cells).toArray 47) = z1 at Zb1 ee ⊢
 obtain ⟨g2, hg_g2⟩ : ∃ g_, g_ = w.heap.size := ⟨_, rfl⟩
 have hB_g2 : w.heap.size ≤ g2 := by rw [hg_g2]; exact sz_g2
 rw [← hg_g2] at Zb1 ⊢
 clear hg_g2
 with_reducible refine wv (.bool false) ?_
 try simp only [nP, nN, nA, n0, nS]
 refine wpList_nil ?_
 refine hK1 _ _ ?_
 refine wp_seq_k fun K3 hK3 => ?_
 refine wp_region_lit ?_
 with_reducible refine wv (.pointer (some ⟨g2, 0, none⟩)) ?_
 try simp only [nP, nN, nA, n0, nS]
 with_reducible refine wl (.int .i64 m.kd) ⟨g2, 0, none⟩ (rowCell Zb1 (0) rfl) Tryd.underlying3 ?_
 try simp only [nP, nN, nA, n0, nS]
 with_reducible refine wv (.int .i64 m.kd) ?_
 try simp only [nP, nN, nA, n0, nS]
 refine wpList_nil ?_
 refine hK3 _ _ ?_
 refine wp_seq_k fun K4 hK4 => ?_
 refine wp_seq_k fun K5 hK5 => ?_
 have hjK5 : ∀ (u6 u7 u8 u9 u10 u11 u12 u13 u14 u15 u16 u17 u18 u19 u20 u21 u22 u23 u24 : Value) (b7 : Bool) (zc5 : World), zc5.heap[g2]? = some (.cells (m.cells).toArray 47 (0, 0)) → Below w.heap.size w zc5 → ((T.uT m.kd && (!m.t.formed)) || ((!(T.uT m.kd)) && (!(SameT m.t Tn.zero)))) = b7 → K5 ⟨#[.agg (m.cells).toArray, .pointer (some ⟨g2, 0, none⟩), .bool false, .int .i64 m.kd, .pointer (some ⟨g2, 0, none⟩), .int .i64 m.kd, u6, u7, u8, u9, u10, u11, u12, u13, u14, u15, u16, u17, u18, u19, u20, u21, u22, u23, u24, .bool b7, undef, undef, undef, undef, undef, undef, undef, undef, undef, undef, undef, undef, undef, undef, undef, undef, undef, undef, undef, undef, undef, undef, undef, undef, undef, undef, undef, undef, undef, undef, undef, undef, undef, undef, undef, undef, undef, undef, undef, undef, undef, undef, undef, undef, undef, undef, undef, undef, undef, undef, undef, undef, undef, undef, undef, undef, undef, undef, undef, undef, undef, undef, undef, undef, undef, undef, undef, undef, undef, undef, undef, undef, undef], []⟩ zc5 := by
  clear Zb1 ee
  intro u6 u7 u8 u9 u10 u11 u12 u13 u14 u15 u16 u17 u18 u19 u20 u21 u22 u23 u24 b7 zc5 Zb1 ee hb7
  refine hK5 _ _ ?_
  cases b7
  ·refine wp_cond_false (by kernel_rfl) ?_
   refine wp_skip ?_
   refine hK4 _ _ ?_
   refine wp_seq_k fun K8 hK8 => ?_
   refine wp_seq_k fun K9 hK9 => ?_
   have hjK9 : ∀ (u26 u27 u28 u29 u30 u31 u32 u33 u34 u35 u36 u37 u38 u39 u40 u41 u42 u43 : Value) (b11 : Bool) (zc9 : World), zc9.heap[g2]? = some (.cells (m.cells).toArray 47 (0, 0)) → Below w.heap.size w zc9 → ((T.uI m.kd && (!(idb m.ii m.ij))) || ((!(T.uI m.kd)) && (!decide (m.ii = 0 ∧ m.ij = 0)))) = b11 → K9 ⟨#[.agg (m.cells).toArray, .pointer (some ⟨g2, 0, none⟩), .bool false, .int .i64 m.kd, .pointer (some ⟨g2, 0, none⟩), .int .i64 m.kd, u6, u7, u8, u9, u10, u11, u12, u13, u14, u15, u16, u17, u18, u19, u20, u21, u22, u23, u24, .bool false, u26, u27, u28, u29, u30, u31, u32, u33, u34, u35, u36, u37, u38, u39, u40, u41, u42, u43, .bool b11, undef, undef, undef, undef, undef, undef, undef, undef, undef, undef, undef, undef, undef, undef, undef, undef, undef, undef, undef, undef, undef, undef, undef, undef, undef, undef, undef, undef, undef, undef, undef, undef, undef, undef, undef, undef, undef, undef, undef, undef, undef, undef, undef, undef, undef, undef, undef, undef, undef, undef, undef, undef, undef, undef], []⟩ zc9 := by
    clear Zb1 ee
    intro u26 u27 u28 u29 u30 u31 u32 u33 u34 u35 u36 u37 u38 u39 u40 u41 u42 u43 b11 zc9 Zb1 ee hb11
    refine hK9 _ _ ?_
    cases b11
    ·refine wp_cond_false (by kernel_rfl) ?_
     refine wp_skip ?_
     refine hK8 _ _ ?_
     refine wp_seq_k fun K12 hK12 => ?_
     refine wp_seq_k fun K13 hK13 => ?_
     have hjK13 : ∀ (u45 u46 u47 u48 u49 u50 u51 u52 u53 u54 u55 u56 u57 u58 u59 u60 u61 u62 u63 u64 u65 u66 u67 u68 u69 u70 u71 u72 u73 u74 u75 u76 u77 u78 u79 u80 : Value) (b15 : Bool) (zc13 : World), zc13.heap[g2]? = some (.cells (m.cells).toArray 47 (0, 0)) → Below w.heap.size w zc13 → ((((decide (m.g < 0) || decide (m.g ≥ 4)) || ((!(T.uG m.kd)) && (!decide (m.g = 0)))) || ((!(T.uP m.kd)) && (!decide ((m.st : Int) = 0)))) || (m.ye && (!(T.uY m.kd)))) = b15 → K13 ⟨#[.agg (m.cells).toArray, .pointer (some ⟨g2, 0, none⟩), .bool false, .int .i64 m.kd, .pointer (some ⟨g2, 0, none⟩), .int .i64 m.kd, u6, u7, u8, u9, u10, u11, u12, u13, u14, u15, u16, u17, u18, u19, u20, u21, u22, u23, u24, .bool false, u26, u27, u28, u29, u30, u31, u32, u33, u34, u35, u36, u37, u38, u39, u40, u41, u42, u43, .bool false, u45, u46, u47, u48, u49, u50, u51, u52, u53, u54, u55, u56, u57, u58, u59, u60, u61, u62, u63, u64, u65, u66, u67, u68, u69, u70, u71, u72, u73, u74, u75, u76, u77, u78, u79, u80, .bool b15, undef, undef, undef, undef, undef, undef, undef, undef, undef, undef, undef, undef, undef, undef, undef, undef, undef], []⟩ zc13 := by
      clear Zb1 ee
      intro u45 u46 u47 u48 u49 u50 u51 u52 u53 u54 u55 u56 u57 u58 u59 u60 u61 u62 u63 u64 u65 u66 u67 u68 u69 u70 u71 u72 u73 u74 u75 u76 u77 u78 u79 u80 b15 zc13 Zb1 ee hb15
      refine hK13 _ _ ?_
      cases b15
      ·refine wp_cond_false (by kernel_rfl) ?_
       refine wp_skip ?_
       refine hK12 _ _ ?_
       refine wp_seq_k fun K16 hK16 => ?_
       have hjK16 : ∀ (u82 u83 u84 u85 u86 u87 u88 u89 u90 u91 u92 u93 u94 u95 u96 u97 u98 : Value) (b18 : Bool) (zc16 : World), zc16.heap[g2]? = some (.cells (m.cells).toArray 47 (0, 0)) → Below w.heap.size w zc16 → ((decide (m.nu ≥ 0) && decide (m.nu ≤ 2147483647)) && (T.uN m.kd || decide (m.nu = 0))) = b18 → K16 ⟨#[.agg (m.cells).toArray, .pointer (some ⟨g2, 0, none⟩), .bool b18, .int .i64 m.kd, .pointer (some ⟨g2, 0, none⟩), .int .i64 m.kd, u6, u7, u8, u9, u10, u11, u12, u13, u14, u15, u16, u17, u18, u19, u20, u21, u22, u23, u24, .bool false, u26, u27, u28, u29, u30, u31, u32, u33, u34, u35, u36, u37, u38, u39, u40, u41, u42, u43, .bool false, u45, u46, u47, u48, u49, u50, u51, u52, u53, u54, u55, u56, u57, u58, u59, u60, u61, u62, u63, u64, u65, u66, u67, u68, u69, u70, u71, u72, u73, u74, u75, u76, u77, u78, u79, u80, .bool false, u82, u83, u84, u85, u86, u87, u88, u89, u90, u91, u92, u93, u94, u95, u96, u97, u98], []⟩ zc16 := by
        clear Zb1 ee
        intro u82 u83 u84 u85 u86 u87 u88 u89 u90 u91 u92 u93 u94 u95 u96 u97 u98 b18 zc16 Zb1 ee hb18
        refine hK16 _ _ ?_
        refine wp_ret ?_
        cases b18
        ·exact bodyPost_ret (v := .bool false) (by kernel_rfl) rfl ⟨congrArg (fun b => Ending.returned (.bool b)) (show false = m.rsecond from by unfold T.Ms.rsecond; first | (simp only [hb7, hb11, hb15, hb18]; done) | (simp only [hb7, hb11, hb15, hb18]; rfl) | simp [hb7, hb11, hb15, hb18]), ee⟩
        exact bodyPost_ret (v := .bool true) (by kernel_rfl) rfl ⟨congrArg (fun b => Ending.returned (.bool b)) (show true = m.rsecond from by unfold T.Ms.rsecond; first | (simp only [hb7, hb11, hb15, hb18]; done) | (simp only [hb7, hb11, hb15, hb18]; rfl) | simp [hb7, hb11, hb15, hb18]), ee⟩
       refine wp_region_lit ?_
       with_reducible refine wv (.pointer (some ⟨g2, 26, none⟩)) ?_
       try simp only [nP, nN, nA, n0, nS]
       with_reducible refine wl (.int .i64 m.nu) ⟨g2, 26, none⟩ (rowCell Zb1 (26) rfl) Tryd.underlying3 ?_
       try simp only [nP, nN, nA, n0, nS]
       obtain ⟨b19, hb19⟩ : ∃ d_ : Bool, (decide (m.nu ≥ 0)) = d_ := ⟨_, rfl⟩
       with_reducible refine wb (.bool b19) (.int .i64 m.nu) (.int .i64 0) 3 (run_geqI hb19) ?_
       try simp only [nP, nN, nA, n0, nS]
       with_reducible refine wv (.bool b19) ?_
       try simp only [nP, nN, nA, n0, nS]
       cases b19
       ·have pb19 : ¬ (m.nu ≥ 0) := of_decide_eq_false hb19
        with_reducible refine wk ?_
        try simp only [nP, nN, nA, n0, nS]
        with_reducible refine wk ?_
        try simp only [nP, nN, nA, n0, nS]
        with_reducible refine wk ?_
        try simp only [nP, nN, nA, n0, nS]
        with_reducible refine wv (.bool false) ?_
        try simp only [nP, nN, nA, n0, nS]
        with_reducible refine wv (.bool false) ?_
        try simp only [nP, nN, nA, n0, nS]
        with_reducible refine wk ?_
        try simp only [nP, nN, nA, n0, nS]
        with_reducible refine wk ?_
        try simp only [nP, nN, nA, n0, nS]
        with_reducible refine wk ?_
        try simp only [nP, nN, nA, n0, nS]
        with_reducible refine wk ?_
        try simp only [nP, nN, nA, n0, nS]
        with_reducible refine wk ?_
        try simp only [nP, nN, nA, n0, nS]
        with_reducible refine wk ?_
        try simp only [nP, nN, nA, n0, nS]
        with_reducible refine wk ?_
        try simp only [nP, nN, nA, n0, nS]
        with_reducible refine wv (.bool false) ?_
        try simp only [nP, nN, nA, n0, nS]
        with_reducible refine wv (.bool false) ?_
        try simp only [nP, nN, nA, n0, nS]
        refine wpList_nil ?_
        exact hjK16 _ _ _ _ _ _ _ _ _ _ _ _ _ _ _ _ _ false _ Zb1 ee (by first | (simp only [hb7, hb11, hb15, hb19]; done) | (simp only [hb7, hb11, hb15, hb19]; rfl) | simp [hb7, hb11, hb15, hb19])
       have pb19 : m.nu ≥ 0 := of_decide_eq_true hb19
       with_reducible refine wv (.pointer (some ⟨g2, 26, none⟩)) ?_
       try simp only [nP, nN, nA, n0, nS]
       with_reducible refine wl (.int .i64 m.nu) ⟨g2, 26, none⟩ (rowCell Zb1 (26) rfl) Tryd.underlying3 ?_
       try simp only [nP, nN, nA, n0, nS]
       obtain ⟨b20, hb20⟩ : ∃ d_ : Bool, (decide (m.nu ≤ 2147483647)) = d_ := ⟨_, rfl⟩
       with_reducible refine wb (.bool b20) (.int .i64 m.nu) (.int .i64 2147483647) 3 (run_leqI hb20) ?_
       try simp only [nP, nN, nA, n0, nS]
       with_reducible refine wv (.bool b20) ?_
       try simp only [nP, nN, nA, n0, nS]
       with_reducible refine wv (.bool b20) ?_
       try simp only [nP, nN, nA, n0, nS]
       cases b20
       ·have pb20 : ¬ (m.nu ≤ 2147483647) := of_decide_eq_false hb20
        with_reducible refine wk ?_
        try simp only [nP, nN, nA, n0, nS]
        with_reducible refine wk ?_
        try simp only [nP, nN, nA, n0, nS]
        with_reducible refine wk ?_
        try simp only [nP, nN, nA, n0, nS]
        with_reducible refine wk ?_
        try simp only [nP, nN, nA, n0, nS]
        with_reducible refine wk ?_
        try simp only [nP, nN, nA, n0, nS]
        with_reducible refine wk ?_
        try simp only [nP, nN, nA, n0, nS]
        with_reducible refine wk ?_
        try simp only [nP, nN, nA, n0, nS]
        with_reducible refine wv (.bool false) ?_
        try simp only [nP, nN, nA, n0, nS]
        with_reducible refine wv (.bool false) ?_
        try simp only [nP, nN, nA, n0, nS]
        refine wpList_nil ?_
        exact hjK16 _ _ _ _ _ _ _ _ _ _ _ _ _ _ _ _ _ false _ Zb1 ee (by first | (simp only [hb7, hb11, hb15, hb19, hb20]; done) | (simp only [hb7, hb11, hb15, hb19, hb20]; rfl) | simp [hb7, hb11, hb15, hb19, hb20])
       have pb20 : m.nu ≤ 2147483647 := of_decide_eq_true hb20
       with_reducible refine wv (.int .i64 m.kd) ?_
       try simp only [nP, nN, nA, n0, nS]
       with_reducible refine wc 52 #[.int .i64 m.kd, .string ((⟨#[110, 117, 109, 98, 101, 114]⟩ : ByteArray))] (uses_N m.kd zc13) ?_
       rintro e z2 ⟨rfl, hw_⟩
       refine ⟨_, rfl, ?_⟩
       rw [← hw_]
       clear hw_ z2
       generalize hb21 : T.uN m.kd = b21
       try simp only [nP, nN, nA, n0, nS]
       with_reducible refine wv (.bool b21) ?_
       try simp only [nP, nN, nA, n0, nS]
       cases b21
       ·with_reducible refine wv (.pointer (some ⟨g2, 26, none⟩)) ?_
        try simp only [nP, nN, nA, n0, nS]
        with_reducible refine wl (.int .i64 m.nu) ⟨g2, 26, none⟩ (rowCell Zb1 (26) rfl) Tryd.underlying3 ?_
        try simp only [nP, nN, nA, n0, nS]
        obtain ⟨b22, hb22⟩ : ∃ d_ : Bool, (decide (m.nu = 0)) = d_ := ⟨_, rfl⟩
        with_reducible refine wb (.bool b22) (.int .i64 m.nu) (.int .i64 0) 3 (run_eqlI hb22) ?_
        try simp only [nP, nN, nA, n0, nS]
        with_reducible refine wv (.bool b22) ?_
        try simp only [nP, nN, nA, n0, nS]
        with_reducible refine wv (.bool b22) ?_
        try simp only [nP, nN, nA, n0, nS]
        with_reducible refine wv (.bool b22) ?_
        try simp only [nP, nN, nA, n0, nS]
        refine wpList_nil ?_
        exact hjK16 _ _ _ _ _ _ _ _ _ _ _ _ _ _ _ _ _ b22 _ Zb1 ee (by first | (simp only [hb7, hb11, hb15, hb19, hb20, hb21, hb22]; done) | (simp only [hb7, hb11, hb15, hb19, hb20, hb21, hb22]; rfl) | simp [hb7, hb11, hb15, hb19, hb20, hb21, hb22])
       with_reducible refine wk ?_
       try simp only [nP, nN, nA, n0, nS]
       with_reducible refine wk ?_
       try simp only [nP, nN, nA, n0, nS]
       with_reducible refine wk ?_
       try simp only [nP, nN, nA, n0, nS]
       with_reducible refine wv (.bool true) ?_
       try simp only [nP, nN, nA, n0, nS]
       with_reducible refine wv (.bool true) ?_
       try simp only [nP, nN, nA, n0, nS]
       with_reducible refine wv (.bool true) ?_
       try simp only [nP, nN, nA, n0, nS]
       refine wpList_nil ?_
       exact hjK16 _ _ _ _ _ _ _ _ _ _ _ _ _ _ _ _ _ true _ Zb1 ee (by first | (simp only [hb7, hb11, hb15, hb19, hb20, hb21]; done) | (simp only [hb7, hb11, hb15, hb19, hb20, hb21]; rfl) | simp [hb7, hb11, hb15, hb19, hb20, hb21])
      refine wp_cond_true (by kernel_rfl) ?_
      refine wp_seq_k fun K23 hK23 => ?_
      refine wp_region_lit ?_
      with_reducible refine wv (.bool false) ?_
      try simp only [nP, nN, nA, n0, nS]
      refine wpList_nil ?_
      refine hK23 _ _ ?_
      refine wp_ret ?_
      refine then_ret ?_
      exact bodyPost_ret (v := .bool false) (by kernel_rfl) rfl ⟨congrArg (fun b => Ending.returned (.bool b)) (show false = m.rsecond from by unfold T.Ms.rsecond; first | (simp only [hb7, hb11, hb15]; done) | (simp only [hb7, hb11, hb15]; rfl) | simp [hb7, hb11, hb15]), ee⟩
     refine wp_region_lit ?_
     with_reducible refine wv (.pointer (some ⟨g2, 23, none⟩)) ?_
     try simp only [nP, nN, nA, n0, nS]
     with_reducible refine wl (.int .i64 m.g) ⟨g2, 23, none⟩ (rowCell Zb1 (23) rfl) Tryd.underlying3 ?_
     try simp only [nP, nN, nA, n0, nS]
     obtain ⟨b24, hb24⟩ : ∃ d_ : Bool, (decide (m.g < 0)) = d_ := ⟨_, rfl⟩
     with_reducible refine wb (.bool b24) (.int .i64 m.g) (.int .i64 0) 3 (run_lssI hb24) ?_
     try simp only [nP, nN, nA, n0, nS]
     with_reducible refine wv (.bool b24) ?_
     try simp only [nP, nN, nA, n0, nS]
     cases b24
     ·have pb24 : ¬ (m.g < 0) := of_decide_eq_false hb24
      with_reducible refine wv (.pointer (some ⟨g2, 23, none⟩)) ?_
      try simp only [nP, nN, nA, n0, nS]
      with_reducible refine wl (.int .i64 m.g) ⟨g2, 23, none⟩ (rowCell Zb1 (23) rfl) Tryd.underlying3 ?_
      try simp only [nP, nN, nA, n0, nS]
      obtain ⟨b25, hb25⟩ : ∃ d_ : Bool, (decide (m.g ≥ 4)) = d_ := ⟨_, rfl⟩
      with_reducible refine wb (.bool b25) (.int .i64 m.g) (.int .i64 4) 3 (run_geqI hb25) ?_
      try simp only [nP, nN, nA, n0, nS]
      with_reducible refine wv (.bool b25) ?_
      try simp only [nP, nN, nA, n0, nS]
      with_reducible refine wv (.bool b25) ?_
      try simp only [nP, nN, nA, n0, nS]
      cases b25
      ·have pb25 : ¬ (m.g ≥ 4) := of_decide_eq_false hb25
       with_reducible refine wv (.int .i64 m.kd) ?_
       try simp only [nP, nN, nA, n0, nS]
       with_reducible refine wc 52 #[.int .i64 m.kd, .string ((⟨#[103, 114, 111, 117, 112]⟩ : ByteArray))] (uses_G m.kd zc9) ?_
       rintro e z2 ⟨rfl, hw_⟩
       refine ⟨_, rfl, ?_⟩
       rw [← hw_]
       clear hw_ z2
       generalize hb26 : T.uG m.kd = b26
       try simp only [nP, nN, nA, n0, nS]
       cases b26
       ·with_reducible refine wv (.bool true) ?_
        try simp only [nP, nN, nA, n0, nS]
        with_reducible refine wv (.bool true) ?_
        try simp only [nP, nN, nA, n0, nS]
        with_reducible refine wv (.pointer (some ⟨g2, 23, none⟩)) ?_
        try simp only [nP, nN, nA, n0, nS]
        with_reducible refine wl (.int .i64 m.g) ⟨g2, 23, none⟩ (rowCell Zb1 (23) rfl) Tryd.underlying3 ?_
        try simp only [nP, nN, nA, n0, nS]
        obtain ⟨b27, hb27⟩ : ∃ d_ : Bool, (decide (m.g = 0)) = d_ := ⟨_, rfl⟩
        cases b27
        ·have pb27 : ¬ (m.g = 0) := of_decide_eq_false hb27
         with_reducible refine wb (.bool true) (.int .i64 m.g) (.int .i64 0) 3 (run_neqI hb27) ?_
         try simp only [nP, nN, nA, n0, nS]
         with_reducible refine wv (.bool true) ?_
         try simp only [nP, nN, nA, n0, nS]
         with_reducible refine wv (.bool true) ?_
         try simp only [nP, nN, nA, n0, nS]
         with_reducible refine wv (.bool true) ?_
         try simp only [nP, nN, nA, n0, nS]
         with_reducible refine wk ?_
         try simp only [nP, nN, nA, n0, nS]
         with_reducible refine wk ?_
         try simp only [nP, nN, nA, n0, nS]
         with_reducible refine wk ?_
         try simp only [nP, nN, nA, n0, nS]
         with_reducible refine wk ?_
         try simp only [nP, nN, nA, n0, nS]
         with_reducible refine wk ?_
         try simp only [nP, nN, nA, n0, nS]
         with_reducible refine wk ?_
         try simp only [nP, nN, nA, n0, nS]
         with_reducible refine wk ?_
         try simp only [nP, nN, nA, n0, nS]
         with_reducible refine wk ?_
         try simp only [nP, nN, nA, n0, nS]
         with_reducible refine wv (.bool true) ?_
         try simp only [nP, nN, nA, n0, nS]
         with_reducible refine wv (.bool true) ?_
         try simp only [nP, nN, nA, n0, nS]
         with_reducible refine wk ?_
         try simp only [nP, nN, nA, n0, nS]
         with_reducible refine wk ?_
         try simp only [nP, nN, nA, n0, nS]
         with_reducible refine wk ?_
         try simp only [nP, nN, nA, n0, nS]
         with_reducible refine wk ?_
         try simp only [nP, nN, nA, n0, nS]
         with_reducible refine wk ?_
         try simp only [nP, nN, nA, n0, nS]
         with_reducible refine wk ?_
         try simp only [nP, nN, nA, n0, nS]
         with_reducible refine wk ?_
         try simp only [nP, nN, nA, n0, nS]
         with_reducible refine wv (.bool true) ?_
         try simp only [nP, nN, nA, n0, nS]
         refine wpList_nil ?_
         exact hjK13 _ _ _ _ _ _ _ _ _ _ _ _ _ _ _ _ _ _ _ _ _ _ _ _ _ _ _ _ _ _ _ _ _ _ _ _ true _ Zb1 ee (by first | (simp only [hb7, hb11, hb24, hb25, hb26, hb27]; done) | (simp only [hb7, hb11, hb24, hb25, hb26, hb27]; rfl) | simp [hb7, hb11, hb24, hb25, hb26, hb27])
        have pb27 : m.g = 0 := of_decide_eq_true hb27
        have eb27 : m.g = 0 := of_decide_eq_true hb27
        with_reducible refine wb (.bool false) (.int .i64 m.g) (.int .i64 0) 3 (run_neqI hb27) ?_
        try simp only [nP, nN, nA, n0, nS]
        with_reducible refine wv (.bool false) ?_
        try simp only [nP, nN, nA, n0, nS]
        with_reducible refine wv (.bool false) ?_
        try simp only [nP, nN, nA, n0, nS]
        with_reducible refine wv (.bool false) ?_
        try simp only [nP, nN, nA, n0, nS]
        with_reducible refine wv (.int .i64 m.kd) ?_
        try simp only [nP, nN, nA, n0, nS]
        with_reducible refine wc 52 #[.int .i64 m.kd, .string ((⟨#[115, 116, 97, 109, 112]⟩ : ByteArray))] (uses_P m.kd zc9) ?_
        rintro e z3 ⟨rfl, hw_⟩
        refine ⟨_, rfl, ?_⟩
        rw [← hw_]
        clear hw_ z3
        generalize hb28 : T.uP m.kd = b28
        try simp only [nP, nN, nA, n0, nS]
        cases b28
        ·with_reducible refine wv (.bool true) ?_
         try simp only [nP, nN, nA, n0, nS]
         with_reducible refine wv (.bool true) ?_
         try simp only [nP, nN, nA, n0, nS]
         with_reducible refine wv (.pointer (some ⟨g2, 24, none⟩)) ?_
         try simp only [nP, nN, nA, n0, nS]
         with_reducible refine wl (.int .u64 ((m.st : Int))) ⟨g2, 24, none⟩ (rowCell Zb1 (24) rfl) Tryd.underlying31 ?_
         try simp only [nP, nN, nA, n0, nS]
         obtain ⟨b29, hb29⟩ : ∃ d_ : Bool, (decide ((m.st : Int) = 0)) = d_ := ⟨_, rfl⟩
         cases b29
         ·have pb29 : ¬ ((m.st : Int) = 0) := of_decide_eq_false hb29
          with_reducible refine wb (.bool true) (.int .u64 ((m.st : Int))) (.int .u64 0) 31 (run_neqI hb29) ?_
          try simp only [nP, nN, nA, n0, nS]
          with_reducible refine wv (.bool true) ?_
          try simp only [nP, nN, nA, n0, nS]
          with_reducible refine wv (.bool true) ?_
          try simp only [nP, nN, nA, n0, nS]
          with_reducible refine wv (.bool true) ?_
          try simp only [nP, nN, nA, n0, nS]
          with_reducible refine wk ?_
          try simp only [nP, nN, nA, n0, nS]
          with_reducible refine wk ?_
          try simp only [nP, nN, nA, n0, nS]
          with_reducible refine wk ?_
          try simp only [nP, nN, nA, n0, nS]
          with_reducible refine wk ?_
          try simp only [nP, nN, nA, n0, nS]
          with_reducible refine wk ?_
          try simp only [nP, nN, nA, n0, nS]
          with_reducible refine wk ?_
          try simp only [nP, nN, nA, n0, nS]
          with_reducible refine wk ?_
          try simp only [nP, nN, nA, n0, nS]
          with_reducible refine wv (.bool true) ?_
          try simp only [nP, nN, nA, n0, nS]
          refine wpList_nil ?_
          exact hjK13 _ _ _ _ _ _ _ _ _ _ _ _ _ _ _ _ _ _ _ _ _ _ _ _ _ _ _ _ _ _ _ _ _ _ _ _ true _ Zb1 ee (by first | (simp only [hb7, hb11, hb24, hb25, hb26, hb27, hb28, hb29]; done) | (simp only [hb7, hb11, hb24, hb25, hb26, hb27, hb28, hb29]; rfl) | simp [hb7, hb11, hb24, hb25, hb26, hb27, hb28, hb29])
         have pb29 : (m.st : Int) = 0 := of_decide_eq_true hb29
         have eb29 : (m.st : Int) = 0 := of_decide_eq_true hb29
         with_reducible refine wb (.bool false) (.int .u64 ((m.st : Int))) (.int .u64 0) 31 (run_neqI hb29) ?_
         try simp only [nP, nN, nA, n0, nS]
         with_reducible refine wv (.bool false) ?_
         try simp only [nP, nN, nA, n0, nS]
         with_reducible refine wv (.bool false) ?_
         try simp only [nP, nN, nA, n0, nS]
         with_reducible refine wv (.bool false) ?_
         try simp only [nP, nN, nA, n0, nS]
         with_reducible refine wv (.pointer (some ⟨g2, 25, none⟩)) ?_
         try simp only [nP, nN, nA, n0, nS]
         with_reducible refine wl (.bool m.ye) ⟨g2, 25, none⟩ (rowCell Zb1 (25) rfl) Tryd.underlying4 ?_
         generalize hb30 : m.ye = b30
         try simp only [nP, nN, nA, n0, nS]
         with_reducible refine wv (.bool b30) ?_
         try simp only [nP, nN, nA, n0, nS]
         cases b30
         ·with_reducible refine wk ?_
          try simp only [nP, nN, nA, n0, nS]
          with_reducible refine wk ?_
          try simp only [nP, nN, nA, n0, nS]
          with_reducible refine wk ?_
          try simp only [nP, nN, nA, n0, nS]
          with_reducible refine wv (.bool false) ?_
          try simp only [nP, nN, nA, n0, nS]
          with_reducible refine wv (.bool false) ?_
          try simp only [nP, nN, nA, n0, nS]
          refine wpList_nil ?_
          exact hjK13 _ _ _ _ _ _ _ _ _ _ _ _ _ _ _ _ _ _ _ _ _ _ _ _ _ _ _ _ _ _ _ _ _ _ _ _ false _ Zb1 ee (by first | (simp only [hb7, hb11, hb24, hb25, hb26, hb27, hb28, hb29, hb30]; done) | (simp only [hb7, hb11, hb24, hb25, hb26, hb27, hb28, hb29, hb30]; rfl) | simp [hb7, hb11, hb24, hb25, hb26, hb27, hb28, hb29, hb30])
         with_reducible refine wv (.int .i64 m.kd) ?_
         try simp only [nP, nN, nA, n0, nS]
         with_reducible refine wc 52 #[.int .i64 m.kd, .string ((⟨#[121, 101, 115]⟩ : ByteArray))] (uses_Y m.kd zc9) ?_
         rintro e z4 ⟨rfl, hw_⟩
         refine ⟨_, rfl, ?_⟩
         rw [← hw_]
         clear hw_ z4
         generalize hb31 : T.uY m.kd = b31
         try simp only [nP, nN, nA, n0, nS]
         cases b31
         ·with_reducible refine wv (.bool true) ?_
          try simp only [nP, nN, nA, n0, nS]
          with_reducible refine wv (.bool true) ?_
          try simp only [nP, nN, nA, n0, nS]
          with_reducible refine wv (.bool true) ?_
          try simp only [nP, nN, nA, n0, nS]
          refine wpList_nil ?_
          exact hjK13 _ _ _ _ _ _ _ _ _ _ _ _ _ _ _ _ _ _ _ _ _ _ _ _ _ _ _ _ _ _ _ _ _ _ _ _ true _ Zb1 ee (by first | (simp only [hb7, hb11, hb24, hb25, hb26, hb27, hb28, hb29, hb30, hb31]; done) | (simp only [hb7, hb11, hb24, hb25, hb26, hb27, hb28, hb29, hb30, hb31]; rfl) | simp [hb7, hb11, hb24, hb25, hb26, hb27, hb28, hb29, hb30, hb31])
         with_reducible refine wv (.bool false) ?_
         try simp only [nP, nN, nA, n0, nS]
         with_reducible refine wv (.bool false) ?_
         try simp only [nP, nN, nA, n0, nS]
         with_reducible refine wv (.bool false) ?_
         try simp only [nP, nN, nA, n0, nS]
         refine wpList_nil ?_
         exact hjK13 _ _ _ _ _ _ _ _ _ _ _ _ _ _ _ _ _ _ _ _ _ _ _ _ _ _ _ _ _ _ _ _ _ _ _ _ false _ Zb1 ee (by first | (simp only [hb7, hb11, hb24, hb25, hb26, hb27, hb28, hb29, hb30, hb31]; done) | (simp only [hb7, hb11, hb24, hb25, hb26, hb27, hb28, hb29, hb30, hb31]; rfl) | simp [hb7, hb11, hb24, hb25, hb26, hb27, hb28, hb29, hb30, hb31])
        with_reducible refine wv (.bool false) ?_
        try simp only [nP, nN, nA, n0, nS]
        with_reducible refine wv (.bool false) ?_
        try simp only [nP, nN, nA, n0, nS]
        with_reducible refine wk ?_
        try simp only [nP, nN, nA, n0, nS]
        with_reducible refine wk ?_
        try simp only [nP, nN, nA, n0, nS]
        with_reducible refine wk ?_
        try simp only [nP, nN, nA, n0, nS]
        with_reducible refine wv (.bool false) ?_
        try simp only [nP, nN, nA, n0, nS]
        with_reducible refine wv (.bool false) ?_
        try simp only [nP, nN, nA, n0, nS]
        with_reducible refine wv (.bool false) ?_
        try simp only [nP, nN, nA, n0, nS]
        with_reducible refine wv (.pointer (some ⟨g2, 25, none⟩)) ?_
        try simp only [nP, nN, nA, n0, nS]
        with_reducible refine wl (.bool m.ye) ⟨g2, 25, none⟩ (rowCell Zb1 (25) rfl) Tryd.underlying4 ?_
        generalize hb32 : m.ye = b32
        try simp only [nP, nN, nA, n0, nS]
        with_reducible refine wv (.bool b32) ?_
        try simp only [nP, nN, nA, n0, nS]
        cases b32
        ·with_reducible refine wk ?_
         try simp only [nP, nN, nA, n0, nS]
         with_reducible refine wk ?_
         try simp only [nP, nN, nA, n0, nS]
         with_reducible refine wk ?_
         try simp only [nP, nN, nA, n0, nS]
         with_reducible refine wv (.bool false) ?_
         try simp only [nP, nN, nA, n0, nS]
         with_reducible refine wv (.bool false) ?_
         try simp only [nP, nN, nA, n0, nS]
         refine wpList_nil ?_
         exact hjK13 _ _ _ _ _ _ _ _ _ _ _ _ _ _ _ _ _ _ _ _ _ _ _ _ _ _ _ _ _ _ _ _ _ _ _ _ false _ Zb1 ee (by first | (simp only [hb7, hb11, hb24, hb25, hb26, hb27, hb28, hb32]; done) | (simp only [hb7, hb11, hb24, hb25, hb26, hb27, hb28, hb32]; rfl) | simp [hb7, hb11, hb24, hb25, hb26, hb27, hb28, hb32])
        with_reducible refine wv (.int .i64 m.kd) ?_
        try simp only [nP, nN, nA, n0, nS]
        with_reducible refine wc 52 #[.int .i64 m.kd, .string ((⟨#[121, 101, 115]⟩ : ByteArray))] (uses_Y m.kd zc9) ?_
        rintro e z4 ⟨rfl, hw_⟩
        refine ⟨_, rfl, ?_⟩
        rw [← hw_]
        clear hw_ z4
        generalize hb33 : T.uY m.kd = b33
        try simp only [nP, nN, nA, n0, nS]
        cases b33
        ·with_reducible refine wv (.bool true) ?_
         try simp only [nP, nN, nA, n0, nS]
         with_reducible refine wv (.bool true) ?_
         try simp only [nP, nN, nA, n0, nS]
         with_reducible refine wv (.bool true) ?_
         try simp only [nP, nN, nA, n0, nS]
         refine wpList_nil ?_
         exact hjK13 _ _ _ _ _ _ _ _ _ _ _ _ _ _ _ _ _ _ _ _ _ _ _ _ _ _ _ _ _ _ _ _ _ _ _ _ true _ Zb1 ee (by first | (simp only [hb7, hb11, hb24, hb25, hb26, hb27, hb28, hb32, hb33]; done) | (simp only [hb7, hb11, hb24, hb25, hb26, hb27, hb28, hb32, hb33]; rfl) | simp [hb7, hb11, hb24, hb25, hb26, hb27, hb28, hb32, hb33])
        with_reducible refine wv (.bool false) ?_
        try simp only [nP, nN, nA, n0, nS]
        with_reducible refine wv (.bool false) ?_
        try simp only [nP, nN, nA, n0, nS]
        with_reducible refine wv (.bool false) ?_
        try simp only [nP, nN, nA, n0, nS]
        refine wpList_nil ?_
        exact hjK13 _ _ _ _ _ _ _ _ _ _ _ _ _ _ _ _ _ _ _ _ _ _ _ _ _ _ _ _ _ _ _ _ _ _ _ _ false _ Zb1 ee (by first | (simp only [hb7, hb11, hb24, hb25, hb26, hb27, hb28, hb32, hb33]; done) | (simp only [hb7, hb11, hb24, hb25, hb26, hb27, hb28, hb32, hb33]; rfl) | simp [hb7, hb11, hb24, hb25, hb26, hb27, hb28, hb32, hb33])
       with_reducible refine wv (.bool false) ?_
       try simp only [nP, nN, nA, n0, nS]
       with_reducible refine wv (.bool false) ?_
       try simp only [nP, nN, nA, n0, nS]
       with_reducible refine wk ?_
       try simp only [nP, nN, nA, n0, nS]
       with_reducible refine wk ?_
       try simp only [nP, nN, nA, n0, nS]
       with_reducible refine wk ?_
       try simp only [nP, nN, nA, n0, nS]
       with_reducible refine wv (.bool false) ?_
       try simp only [nP, nN, nA, n0, nS]
       with_reducible refine wv (.bool false) ?_
       try simp only [nP, nN, nA, n0, nS]
       with_reducible refine wv (.bool false) ?_
       try simp only [nP, nN, nA, n0, nS]
       with_reducible refine wv (.int .i64 m.kd) ?_
       try simp only [nP, nN, nA, n0, nS]
       with_reducible refine wc 52 #[.int .i64 m.kd, .string ((⟨#[115, 116, 97, 109, 112]⟩ : ByteArray))] (uses_P m.kd zc9) ?_
       rintro e z3 ⟨rfl, hw_⟩
       refine ⟨_, rfl, ?_⟩
       rw [← hw_]
       clear hw_ z3
       generalize hb34 : T.uP m.kd = b34
       try simp only [nP, nN, nA, n0, nS]
       cases b34
       ·with_reducible refine wv (.bool true) ?_
        try simp only [nP, nN, nA, n0, nS]
        with_reducible refine wv (.bool true) ?_
        try simp only [nP, nN, nA, n0, nS]
        with_reducible refine wv (.pointer (some ⟨g2, 24, none⟩)) ?_
        try simp only [nP, nN, nA, n0, nS]
        with_reducible refine wl (.int .u64 ((m.st : Int))) ⟨g2, 24, none⟩ (rowCell Zb1 (24) rfl) Tryd.underlying31 ?_
        try simp only [nP, nN, nA, n0, nS]
        obtain ⟨b35, hb35⟩ : ∃ d_ : Bool, (decide ((m.st : Int) = 0)) = d_ := ⟨_, rfl⟩
        cases b35
        ·have pb35 : ¬ ((m.st : Int) = 0) := of_decide_eq_false hb35
         with_reducible refine wb (.bool true) (.int .u64 ((m.st : Int))) (.int .u64 0) 31 (run_neqI hb35) ?_
         try simp only [nP, nN, nA, n0, nS]
         with_reducible refine wv (.bool true) ?_
         try simp only [nP, nN, nA, n0, nS]
         with_reducible refine wv (.bool true) ?_
         try simp only [nP, nN, nA, n0, nS]
         with_reducible refine wv (.bool true) ?_
         try simp only [nP, nN, nA, n0, nS]
         with_reducible refine wk ?_
         try simp only [nP, nN, nA, n0, nS]
         with_reducible refine wk ?_
         try simp only [nP, nN, nA, n0, nS]
         with_reducible refine wk ?_
         try simp only [nP, nN, nA, n0, nS]
         with_reducible refine wk ?_
         try simp only [nP, nN, nA, n0, nS]
         with_reducible refine wk ?_
         try simp only [nP, nN, nA, n0, nS]
         with_reducible refine wk ?_
         try simp only [nP, nN, nA, n0, nS]
         with_reducible refine wk ?_
         try simp only [nP, nN, nA, n0, nS]
         with_reducible refine wv (.bool true) ?_
         try simp only [nP, nN, nA, n0, nS]
         refine wpList_nil ?_
         exact hjK13 _ _ _ _ _ _ _ _ _ _ _ _ _ _ _ _ _ _ _ _ _ _ _ _ _ _ _ _ _ _ _ _ _ _ _ _ true _ Zb1 ee (by first | (simp only [hb7, hb11, hb24, hb25, hb26, hb34, hb35]; done) | (simp only [hb7, hb11, hb24, hb25, hb26, hb34, hb35]; rfl) | simp [hb7, hb11, hb24, hb25, hb26, hb34, hb35])
        have pb35 : (m.st : Int) = 0 := of_decide_eq_true hb35
        have eb35 : (m.st : Int) = 0 := of_decide_eq_true hb35
        with_reducible refine wb (.bool false) (.int .u64 ((m.st : Int))) (.int .u64 0) 31 (run_neqI hb35) ?_
        try simp only [nP, nN, nA, n0, nS]
        with_reducible refine wv (.bool false) ?_
        try simp only [nP, nN, nA, n0, nS]
        with_reducible refine wv (.bool false) ?_
        try simp only [nP, nN, nA, n0, nS]
        with_reducible refine wv (.bool false) ?_
        try simp only [nP, nN, nA, n0, nS]
        with_reducible refine wv (.pointer (some ⟨g2, 25, none⟩)) ?_
        try simp only [nP, nN, nA, n0, nS]
        with_reducible refine wl (.bool m.ye) ⟨g2, 25, none⟩ (rowCell Zb1 (25) rfl) Tryd.underlying4 ?_
        generalize hb36 : m.ye = b36
        try simp only [nP, nN, nA, n0, nS]
        with_reducible refine wv (.bool b36) ?_
        try simp only [nP, nN, nA, n0, nS]
        cases b36
        ·with_reducible refine wk ?_
         try simp only [nP, nN, nA, n0, nS]
         with_reducible refine wk ?_
         try simp only [nP, nN, nA, n0, nS]
         with_reducible refine wk ?_
         try simp only [nP, nN, nA, n0, nS]
         with_reducible refine wv (.bool false) ?_
         try simp only [nP, nN, nA, n0, nS]
         with_reducible refine wv (.bool false) ?_
         try simp only [nP, nN, nA, n0, nS]
         refine wpList_nil ?_
         exact hjK13 _ _ _ _ _ _ _ _ _ _ _ _ _ _ _ _ _ _ _ _ _ _ _ _ _ _ _ _ _ _ _ _ _ _ _ _ false _ Zb1 ee (by first | (simp only [hb7, hb11, hb24, hb25, hb26, hb34, hb35, hb36]; done) | (simp only [hb7, hb11, hb24, hb25, hb26, hb34, hb35, hb36]; rfl) | simp [hb7, hb11, hb24, hb25, hb26, hb34, hb35, hb36])
        with_reducible refine wv (.int .i64 m.kd) ?_
        try simp only [nP, nN, nA, n0, nS]
        with_reducible refine wc 52 #[.int .i64 m.kd, .string ((⟨#[121, 101, 115]⟩ : ByteArray))] (uses_Y m.kd zc9) ?_
        rintro e z4 ⟨rfl, hw_⟩
        refine ⟨_, rfl, ?_⟩
        rw [← hw_]
        clear hw_ z4
        generalize hb37 : T.uY m.kd = b37
        try simp only [nP, nN, nA, n0, nS]
        cases b37
        ·with_reducible refine wv (.bool true) ?_
         try simp only [nP, nN, nA, n0, nS]
         with_reducible refine wv (.bool true) ?_
         try simp only [nP, nN, nA, n0, nS]
         with_reducible refine wv (.bool true) ?_
         try simp only [nP, nN, nA, n0, nS]
         refine wpList_nil ?_
         exact hjK13 _ _ _ _ _ _ _ _ _ _ _ _ _ _ _ _ _ _ _ _ _ _ _ _ _ _ _ _ _ _ _ _ _ _ _ _ true _ Zb1 ee (by first | (simp only [hb7, hb11, hb24, hb25, hb26, hb34, hb35, hb36, hb37]; done) | (simp only [hb7, hb11, hb24, hb25, hb26, hb34, hb35, hb36, hb37]; rfl) | simp [hb7, hb11, hb24, hb25, hb26, hb34, hb35, hb36, hb37])
        with_reducible refine wv (.bool false) ?_
        try simp only [nP, nN, nA, n0, nS]
        with_reducible refine wv (.bool false) ?_
        try simp only [nP, nN, nA, n0, nS]
        with_reducible refine wv (.bool false) ?_
        try simp only [nP, nN, nA, n0, nS]
        refine wpList_nil ?_
        exact hjK13 _ _ _ _ _ _ _ _ _ _ _ _ _ _ _ _ _ _ _ _ _ _ _ _ _ _ _ _ _ _ _ _ _ _ _ _ false _ Zb1 ee (by first | (simp only [hb7, hb11, hb24, hb25, hb26, hb34, hb35, hb36, hb37]; done) | (simp only [hb7, hb11, hb24, hb25, hb26, hb34, hb35, hb36, hb37]; rfl) | simp [hb7, hb11, hb24, hb25, hb26, hb34, hb35, hb36, hb37])
       with_reducible refine wv (.bool false) ?_
       try simp only [nP, nN, nA, n0, nS]
       with_reducible refine wv (.bool false) ?_
       try simp only [nP, nN, nA, n0, nS]
       with_reducible refine wk ?_
       try simp only [nP, nN, nA, n0, nS]
       with_reducible refine wk ?_
       try simp only [nP, nN, nA, n0, nS]
       with_reducible refine wk ?_
       try simp only [nP, nN, nA, n0, nS]
       with_reducible refine wv (.bool false) ?_
       try simp only [nP, nN, nA, n0, nS]
       with_reducible refine wv (.bool false) ?_
       try simp only [nP, nN, nA, n0, nS]
       with_reducible refine wv (.bool false) ?_
       try simp only [nP, nN, nA, n0, nS]
       with_reducible refine wv (.pointer (some ⟨g2, 25, none⟩)) ?_
       try simp only [nP, nN, nA, n0, nS]
       with_reducible refine wl (.bool m.ye) ⟨g2, 25, none⟩ (rowCell Zb1 (25) rfl) Tryd.underlying4 ?_
       generalize hb38 : m.ye = b38
       try simp only [nP, nN, nA, n0, nS]
       with_reducible refine wv (.bool b38) ?_
       try simp only [nP, nN, nA, n0, nS]
       cases b38
       ·with_reducible refine wk ?_
        try simp only [nP, nN, nA, n0, nS]
        with_reducible refine wk ?_
        try simp only [nP, nN, nA, n0, nS]
        with_reducible refine wk ?_
        try simp only [nP, nN, nA, n0, nS]
        with_reducible refine wv (.bool false) ?_
        try simp only [nP, nN, nA, n0, nS]
        with_reducible refine wv (.bool false) ?_
        try simp only [nP, nN, nA, n0, nS]
        refine wpList_nil ?_
        exact hjK13 _ _ _ _ _ _ _ _ _ _ _ _ _ _ _ _ _ _ _ _ _ _ _ _ _ _ _ _ _ _ _ _ _ _ _ _ false _ Zb1 ee (by first | (simp only [hb7, hb11, hb24, hb25, hb26, hb34, hb38]; done) | (simp only [hb7, hb11, hb24, hb25, hb26, hb34, hb38]; rfl) | simp [hb7, hb11, hb24, hb25, hb26, hb34, hb38])
       with_reducible refine wv (.int .i64 m.kd) ?_
       try simp only [nP, nN, nA, n0, nS]
       with_reducible refine wc 52 #[.int .i64 m.kd, .string ((⟨#[121, 101, 115]⟩ : ByteArray))] (uses_Y m.kd zc9) ?_
       rintro e z4 ⟨rfl, hw_⟩
       refine ⟨_, rfl, ?_⟩
       rw [← hw_]
       clear hw_ z4
       generalize hb39 : T.uY m.kd = b39
       try simp only [nP, nN, nA, n0, nS]
       cases b39
       ·with_reducible refine wv (.bool true) ?_
        try simp only [nP, nN, nA, n0, nS]
        with_reducible refine wv (.bool true) ?_
        try simp only [nP, nN, nA, n0, nS]
        with_reducible refine wv (.bool true) ?_
        try simp only [nP, nN, nA, n0, nS]
        refine wpList_nil ?_
        exact hjK13 _ _ _ _ _ _ _ _ _ _ _ _ _ _ _ _ _ _ _ _ _ _ _ _ _ _ _ _ _ _ _ _ _ _ _ _ true _ Zb1 ee (by first | (simp only [hb7, hb11, hb24, hb25, hb26, hb34, hb38, hb39]; done) | (simp only [hb7, hb11, hb24, hb25, hb26, hb34, hb38, hb39]; rfl) | simp [hb7, hb11, hb24, hb25, hb26, hb34, hb38, hb39])
       with_reducible refine wv (.bool false) ?_
       try simp only [nP, nN, nA, n0, nS]
       with_reducible refine wv (.bool false) ?_
       try simp only [nP, nN, nA, n0, nS]
       with_reducible refine wv (.bool false) ?_
       try simp only [nP, nN, nA, n0, nS]
       refine wpList_nil ?_
       exact hjK13 _ _ _ _ _ _ _ _ _ _ _ _ _ _ _ _ _ _ _ _ _ _ _ _ _ _ _ _ _ _ _ _ _ _ _ _ false _ Zb1 ee (by first | (simp only [hb7, hb11, hb24, hb25, hb26, hb34, hb38, hb39]; done) | (simp only [hb7, hb11, hb24, hb25, hb26, hb34, hb38, hb39]; rfl) | simp [hb7, hb11, hb24, hb25, hb26, hb34, hb38, hb39])
      have pb25 : m.g ≥ 4 := of_decide_eq_true hb25
      with_reducible refine wk ?_
      try simp only [nP, nN, nA, n0, nS]
      with_reducible refine wk ?_
      try simp only [nP, nN, nA, n0, nS]
      with_reducible refine wk ?_
      try simp only [nP, nN, nA, n0, nS]
      with_reducible refine wk ?_
      try simp only [nP, nN, nA, n0, nS]
      with_reducible refine wk ?_
      try simp only [nP, nN, nA, n0, nS]
      with_reducible refine wk ?_
      try simp only [nP, nN, nA, n0, nS]
      with_reducible refine wk ?_
      try simp only [nP, nN, nA, n0, nS]
      with_reducible refine wk ?_
      try simp only [nP, nN, nA, n0, nS]
      with_reducible refine wv (.bool true) ?_
      try simp only [nP, nN, nA, n0, nS]
      with_reducible refine wv (.bool true) ?_
      try simp only [nP, nN, nA, n0, nS]
      with_reducible refine wk ?_
      try simp only [nP, nN, nA, n0, nS]
      with_reducible refine wk ?_
      try simp only [nP, nN, nA, n0, nS]
      with_reducible refine wk ?_
      try simp only [nP, nN, nA, n0, nS]
      with_reducible refine wk ?_
      try simp only [nP, nN, nA, n0, nS]
      with_reducible refine wk ?_
      try simp only [nP, nN, nA, n0, nS]
      with_reducible refine wk ?_
      try simp only [nP, nN, nA, n0, nS]
      with_reducible refine wk ?_
      try simp only [nP, nN, nA, n0, nS]
      with_reducible refine wk ?_
      try simp only [nP, nN, nA, n0, nS]
      with_reducible refine wv (.bool true) ?_
      try simp only [nP, nN, nA, n0, nS]
      with_reducible refine wv (.bool true) ?_
      try simp only [nP, nN, nA, n0, nS]
      with_reducible refine wk ?_
      try simp only [nP, nN, nA, n0, nS]
      with_reducible refine wk ?_
      try simp only [nP, nN, nA, n0, nS]
      with_reducible refine wk ?_
      try simp only [nP, nN, nA, n0, nS]
      with_reducible refine wk ?_
      try simp only [nP, nN, nA, n0, nS]
      with_reducible refine wk ?_
      try simp only [nP, nN, nA, n0, nS]
      with_reducible refine wk ?_
      try simp only [nP, nN, nA, n0, nS]
      with_reducible refine wk ?_
      try simp only [nP, nN, nA, n0, nS]
      with_reducible refine wv (.bool true) ?_
      try simp only [nP, nN, nA, n0, nS]
      refine wpList_nil ?_
      exact hjK13 _ _ _ _ _ _ _ _ _ _ _ _ _ _ _ _ _ _ _ _ _ _ _ _ _ _ _ _ _ _ _ _ _ _ _ _ true _ Zb1 ee (by first | (simp only [hb7, hb11, hb24, hb25]; done) | (simp only [hb7, hb11, hb24, hb25]; rfl) | simp [hb7, hb11, hb24, hb25])
     have pb24 : m.g < 0 := of_decide_eq_true hb24
     with_reducible refine wk ?_
     try simp only [nP, nN, nA, n0, nS]
     with_reducible refine wk ?_
     try simp only [nP, nN, nA, n0, nS]
     with_reducible refine wk ?_
     try simp only [nP, nN, nA, n0, nS]
     with_reducible refine wv (.bool true) ?_
     try simp only [nP, nN, nA, n0, nS]
     with_reducible refine wv (.bool true) ?_
     try simp only [nP, nN, nA, n0, nS]
     with_reducible refine wk ?_
     try simp only [nP, nN, nA, n0, nS]
     with_reducible refine wk ?_
     try simp only [nP, nN, nA, n0, nS]
     with_reducible refine wk ?_
     try simp only [nP, nN, nA, n0, nS]
     with_reducible refine wk ?_
     try simp only [nP, nN, nA, n0, nS]
     with_reducible refine wk ?_
     try simp only [nP, nN, nA, n0, nS]
     with_reducible refine wk ?_
     try simp only [nP, nN, nA, n0, nS]
     with_reducible refine wk ?_
     try simp only [nP, nN, nA, n0, nS]
     with_reducible refine wk ?_
     try simp only [nP, nN, nA, n0, nS]
     with_reducible refine wv (.bool true) ?_
     try simp only [nP, nN, nA, n0, nS]
     with_reducible refine wv (.bool true) ?_
     try simp only [nP, nN, nA, n0, nS]
     with_reducible refine wk ?_
     try simp only [nP, nN, nA, n0, nS]
     with_reducible refine wk ?_
     try simp only [nP, nN, nA, n0, nS]
     with_reducible refine wk ?_
     try simp only [nP, nN, nA, n0, nS]
     with_reducible refine wk ?_
     try simp only [nP, nN, nA, n0, nS]
     with_reducible refine wk ?_
     try simp only [nP, nN, nA, n0, nS]
     with_reducible refine wk ?_
     try simp only [nP, nN, nA, n0, nS]
     with_reducible refine wk ?_
     try simp only [nP, nN, nA, n0, nS]
     with_reducible refine wk ?_
     try simp only [nP, nN, nA, n0, nS]
     with_reducible refine wv (.bool true) ?_
     try simp only [nP, nN, nA, n0, nS]
     with_reducible refine wv (.bool true) ?_
     try simp only [nP, nN, nA, n0, nS]
     with_reducible refine wk ?_
     try simp only [nP, nN, nA, n0, nS]
     with_reducible refine wk ?_
     try simp only [nP, nN, nA, n0, nS]
     with_reducible refine wk ?_
     try simp only [nP, nN, nA, n0, nS]
     with_reducible refine wk ?_
     try simp only [nP, nN, nA, n0, nS]
     with_reducible refine wk ?_
     try simp only [nP, nN, nA, n0, nS]
     with_reducible refine wk ?_
     try simp only [nP, nN, nA, n0, nS]
     with_reducible refine wk ?_
     try simp only [nP, nN, nA, n0, nS]
     with_reducible refine wv (.bool true) ?_
     try simp only [nP, nN, nA, n0, nS]
     refine wpList_nil ?_
     exact hjK13 _ _ _ _ _ _ _ _ _ _ _ _ _ _ _ _ _ _ _ _ _ _ _ _ _ _ _ _ _ _ _ _ _ _ _ _ true _ Zb1 ee (by first | (simp only [hb7, hb11, hb24]; done) | (simp only [hb7, hb11, hb24]; rfl) | simp [hb7, hb11, hb24])
    refine wp_cond_true (by kernel_rfl) ?_
    refine wp_seq_k fun K40 hK40 => ?_
    refine wp_region_lit ?_
    with_reducible refine wv (.bool false) ?_
    try simp only [nP, nN, nA, n0, nS]
    refine wpList_nil ?_
    refine hK40 _ _ ?_
    refine wp_ret ?_
    refine then_ret ?_
    exact bodyPost_ret (v := .bool false) (by kernel_rfl) rfl ⟨congrArg (fun b => Ending.returned (.bool b)) (show false = m.rsecond from by unfold T.Ms.rsecond; first | (simp only [hb7, hb11]; done) | (simp only [hb7, hb11]; rfl) | simp [hb7, hb11]), ee⟩
   refine wp_region_lit ?_
   with_reducible refine wv (.int .i64 m.kd) ?_
   try simp only [nP, nN, nA, n0, nS]
   with_reducible refine wc 52 #[.int .i64 m.kd, .string ((⟨#[105, 100]⟩ : ByteArray))] (uses_I m.kd zc5) ?_
   rintro e z2 ⟨rfl, hw_⟩
   refine ⟨_, rfl, ?_⟩
   rw [← hw_]
   clear hw_ z2
   generalize hb41 : T.uI m.kd = b41
   try simp only [nP, nN, nA, n0, nS]
   with_reducible refine wv (.bool b41) ?_
   try simp only [nP, nN, nA, n0, nS]
   cases b41
   ·with_reducible refine wk ?_
    try simp only [nP, nN, nA, n0, nS]
    with_reducible refine wk ?_
    try simp only [nP, nN, nA, n0, nS]
    with_reducible refine wk ?_
    try simp only [nP, nN, nA, n0, nS]
    with_reducible refine wk ?_
    try simp only [nP, nN, nA, n0, nS]
    with_reducible refine wv (.bool false) ?_
    try simp only [nP, nN, nA, n0, nS]
    with_reducible refine wv (.bool false) ?_
    try simp only [nP, nN, nA, n0, nS]
    with_reducible refine wv (.int .i64 m.kd) ?_
    try simp only [nP, nN, nA, n0, nS]
    with_reducible refine wc 52 #[.int .i64 m.kd, .string ((⟨#[105, 100]⟩ : ByteArray))] (uses_I m.kd zc5) ?_
    rintro e z3 ⟨rfl, hw_⟩
    refine ⟨_, rfl, ?_⟩
    rw [← hw_]
    clear hw_ z3
    rw [hb41]
    try simp only [nP, nN, nA, n0, nS]
    with_reducible refine wv (.bool true) ?_
    try simp only [nP, nN, nA, n0, nS]
    with_reducible refine wv (.bool true) ?_
    try simp only [nP, nN, nA, n0, nS]
    with_reducible refine wv (.pointer (some ⟨g2, 21, none⟩)) ?_
    try simp only [nP, nN, nA, n0, nS]
    with_reducible refine wg (g2) (21) ([.int .i64 m.ii, .int .i64 m.ij]) (rowMid Zb1 (21) (partOf 21 (by kernel_rfl))) Tryd.underlying26 ?_
    try simp only [nP, nN, nA, n0, nS]
    with_reducible refine wv (.agg ([.int .i64 0, .int .i64 0]).toArray) ?_
    try simp only [nP, nN, nA, n0, nS]
    obtain ⟨b42, hb42⟩ : ∃ d_ : Bool, (decide (m.ii = 0 ∧ m.ij = 0)) = d_ := ⟨_, rfl⟩
    cases b42
    ·with_reducible refine wb (.bool true) (.agg ([.int .i64 m.ii, .int .i64 m.ij]).toArray) (.agg ([.int .i64 0, .int .i64 0]).toArray) 26 (run_neOfEq (by have := run_eqId m.ii m.ij 0 0 zc5; rw [hb42] at this; exact this)) ?_
     try simp only [nP, nN, nA, n0, nS]
     with_reducible refine wv (.bool true) ?_
     try simp only [nP, nN, nA, n0, nS]
     with_reducible refine wv (.bool true) ?_
     try simp only [nP, nN, nA, n0, nS]
     refine wpList_nil ?_
     exact hjK9 _ _ _ _ _ _ _ _ _ _ _ _ _ _ _ _ _ _ true _ Zb1 ee (by first | (simp only [hb7, hb41, hb42]; done) | (simp only [hb7, hb41, hb42]; rfl) | simp [hb7, hb41, hb42])
    with_reducible refine wb (.bool false) (.agg ([.int .i64 m.ii, .int .i64 m.ij]).toArray) (.agg ([.int .i64 0, .int .i64 0]).toArray) 26 (run_neOfEq (by have := run_eqId m.ii m.ij 0 0 zc5; rw [hb42] at this; exact this)) ?_
    try simp only [nP, nN, nA, n0, nS]
    with_reducible refine wv (.bool false) ?_
    try simp only [nP, nN, nA, n0, nS]
    with_reducible refine wv (.bool false) ?_
    try simp only [nP, nN, nA, n0, nS]
    refine wpList_nil ?_
    exact hjK9 _ _ _ _ _ _ _ _ _ _ _ _ _ _ _ _ _ _ false _ Zb1 ee (by first | (simp only [hb7, hb41, hb42]; done) | (simp only [hb7, hb41, hb42]; rfl) | simp [hb7, hb41, hb42])
   with_reducible refine wv (.pointer (some ⟨g2, 21, none⟩)) ?_
   try simp only [nP, nN, nA, n0, nS]
   with_reducible refine wg (g2) (21) ([.int .i64 m.ii, .int .i64 m.ij]) (rowMid Zb1 (21) (partOf 21 (by kernel_rfl))) Tryd.underlying26 ?_
   try simp only [nP, nN, nA, n0, nS]
   with_reducible refine wc 110 #[.agg ([.int .i64 m.ii, .int .i64 m.ij]).toArray] (rtid_any m.ii m.ij zc5) ?_
   rintro e z3 ⟨rfl, t⟩
   refine ⟨_, rfl, ?_⟩
   have Zb1 := hpB Zb1 t
   have ee := ee.trans (t.mono ee.size)
   clear t
   generalize hb43 : idb m.ii m.ij = b43
   try simp only [nP, nN, nA, n0, nS]
   cases b43
   ·with_reducible refine wv (.bool true) ?_
    try simp only [nP, nN, nA, n0, nS]
    with_reducible refine wv (.bool true) ?_
    try simp only [nP, nN, nA, n0, nS]
    with_reducible refine wv (.bool true) ?_
    try simp only [nP, nN, nA, n0, nS]
    with_reducible refine wk ?_
    try simp only [nP, nN, nA, n0, nS]
    with_reducible refine wk ?_
    try simp only [nP, nN, nA, n0, nS]
    with_reducible refine wk ?_
    try simp only [nP, nN, nA, n0, nS]
    with_reducible refine wk ?_
    try simp only [nP, nN, nA, n0, nS]
    with_reducible refine wk ?_
    try simp only [nP, nN, nA, n0, nS]
    with_reducible refine wk ?_
    try simp only [nP, nN, nA, n0, nS]
    with_reducible refine wk ?_
    try simp only [nP, nN, nA, n0, nS]
    with_reducible refine wk ?_
    try simp only [nP, nN, nA, n0, nS]
    with_reducible refine wk ?_
    try simp only [nP, nN, nA, n0, nS]
    with_reducible refine wv (.bool true) ?_
    try simp only [nP, nN, nA, n0, nS]
    refine wpList_nil ?_
    exact hjK9 _ _ _ _ _ _ _ _ _ _ _ _ _ _ _ _ _ _ true _ Zb1 ee (by first | (simp only [hb7, hb41, hb43]; done) | (simp only [hb7, hb41, hb43]; rfl) | simp [hb7, hb41, hb43])
   with_reducible refine wv (.bool false) ?_
   try simp only [nP, nN, nA, n0, nS]
   with_reducible refine wv (.bool false) ?_
   try simp only [nP, nN, nA, n0, nS]
   with_reducible refine wv (.bool false) ?_
   try simp only [nP, nN, nA, n0, nS]
   with_reducible refine wv (.int .i64 m.kd) ?_
   try simp only [nP, nN, nA, n0, nS]
   with_reducible refine wc 52 #[.int .i64 m.kd, .string ((⟨#[105, 100]⟩ : ByteArray))] (uses_I m.kd z3) ?_
   rintro e z4 ⟨rfl, hw_⟩
   refine ⟨_, rfl, ?_⟩
   rw [← hw_]
   clear hw_ z4
   rw [hb41]
   try simp only [nP, nN, nA, n0, nS]
   with_reducible refine wv (.bool false) ?_
   try simp only [nP, nN, nA, n0, nS]
   with_reducible refine wv (.bool false) ?_
   try simp only [nP, nN, nA, n0, nS]
   with_reducible refine wk ?_
   try simp only [nP, nN, nA, n0, nS]
   with_reducible refine wk ?_
   try simp only [nP, nN, nA, n0, nS]
   with_reducible refine wk ?_
   try simp only [nP, nN, nA, n0, nS]
   with_reducible refine wk ?_
   try simp only [nP, nN, nA, n0, nS]
   with_reducible refine wv (.bool false) ?_
   try simp only [nP, nN, nA, n0, nS]
   with_reducible refine wv (.bool false) ?_
   try simp only [nP, nN, nA, n0, nS]
   refine wpList_nil ?_
   exact hjK9 _ _ _ _ _ _ _ _ _ _ _ _ _ _ _ _ _ _ false _ Zb1 ee (by first | (simp only [hb7, hb41, hb43]; done) | (simp only [hb7, hb41, hb43]; rfl) | simp [hb7, hb41, hb43])
  refine wp_cond_true (by kernel_rfl) ?_
  refine wp_seq_k fun K44 hK44 => ?_
  refine wp_region_lit ?_
  with_reducible refine wv (.bool false) ?_
  try simp only [nP, nN, nA, n0, nS]
  refine wpList_nil ?_
  refine hK44 _ _ ?_
  refine wp_ret ?_
  refine then_ret ?_
  exact bodyPost_ret (v := .bool false) (by kernel_rfl) rfl ⟨congrArg (fun b => Ending.returned (.bool b)) (show false = m.rsecond from by unfold T.Ms.rsecond; first | (simp only [hb7]; done) | (simp only [hb7]; rfl) | simp [hb7]), ee⟩
 refine wp_region_lit ?_
 with_reducible refine wv (.int .i64 m.kd) ?_
 try simp only [nP, nN, nA, n0, nS]
 with_reducible refine wc 52 #[.int .i64 m.kd, .string ((⟨#[116, 120, 110]⟩ : ByteArray))] (uses_T m.kd z1) ?_
 rintro e z2 ⟨rfl, hw_⟩
 refine ⟨_, rfl, ?_⟩
 rw [← hw_]
 clear hw_ z2
 generalize hb45 : T.uT m.kd = b45
 try simp only [nP, nN, nA, n0, nS]
 with_reducible refine wv (.bool b45) ?_
 try simp only [nP, nN, nA, n0, nS]
 cases b45
 ·with_reducible refine wk ?_
  try simp only [nP, nN, nA, n0, nS]
  with_reducible refine wk ?_
  try simp only [nP, nN, nA, n0, nS]
  with_reducible refine wk ?_
  try simp only [nP, nN, nA, n0, nS]
  with_reducible refine wk ?_
  try simp only [nP, nN, nA, n0, nS]
  with_reducible refine wv (.bool false) ?_
  try simp only [nP, nN, nA, n0, nS]
  with_reducible refine wv (.bool false) ?_
  try simp only [nP, nN, nA, n0, nS]
  with_reducible refine wv (.int .i64 m.kd) ?_
  try simp only [nP, nN, nA, n0, nS]
  with_reducible refine wc 52 #[.int .i64 m.kd, .string ((⟨#[116, 120, 110]⟩ : ByteArray))] (uses_T m.kd z1) ?_
  rintro e z3 ⟨rfl, hw_⟩
  refine ⟨_, rfl, ?_⟩
  rw [← hw_]
  clear hw_ z3
  rw [hb45]
  try simp only [nP, nN, nA, n0, nS]
  with_reducible refine wv (.bool true) ?_
  try simp only [nP, nN, nA, n0, nS]
  with_reducible refine wv (.bool true) ?_
  try simp only [nP, nN, nA, n0, nS]
  with_reducible refine wv (.pointer (some ⟨g2, 17, none⟩)) ?_
  try simp only [nP, nN, nA, n0, nS]
  with_reducible refine wg (g2) (17) (m.t.cells) (rowMid Zb1 (17) (partOf 17 (by kernel_rfl))) Tryd.underlying30 ?_
  try simp only [nP, nN, nA, n0, nS]
  with_reducible refine wv (.agg (Tn.zero.cells).toArray) ?_
  try simp only [nP, nN, nA, n0, nS]
  with_reducible refine wc 60 #[.agg (m.t.cells).toArray, .agg (Tn.zero.cells).toArray] (rts m.t Tn.zero z1 B0 (Nat.le_trans hB ee.size) (ok.t.below ee hB) tnZero) ?_
  rintro e z4 ⟨rfl, t⟩
  refine ⟨_, rfl, ?_⟩
  have Zb1 := hpB Zb1 t
  have ee := ee.trans (t.mono ee.size)
  clear t
  generalize hb46 : SameT m.t Tn.zero = b46
  try simp only [nP, nN, nA, n0, nS]
  cases b46
  ·with_reducible refine wv (.bool true) ?_
   try simp only [nP, nN, nA, n0, nS]
   with_reducible refine wv (.bool true) ?_
   try simp only [nP, nN, nA, n0, nS]
   with_reducible refine wv (.bool true) ?_
   try simp only [nP, nN, nA, n0, nS]
   refine wpList_nil ?_
   exact hjK5 _ _ _ _ _ _ _ _ _ _ _ _ _ _ _ _ _ _ _ true _ Zb1 ee (by first | (simp only [hb45, hb46]; done) | (simp only [hb45, hb46]; rfl) | simp [hb45, hb46])
  with_reducible refine wv (.bool false) ?_
  try simp only [nP, nN, nA, n0, nS]
  with_reducible refine wv (.bool false) ?_
  try simp only [nP, nN, nA, n0, nS]
  with_reducible refine wv (.bool false) ?_
  try simp only [nP, nN, nA, n0, nS]
  refine wpList_nil ?_
  exact hjK5 _ _ _ _ _ _ _ _ _ _ _ _ _ _ _ _ _ _ _ false _ Zb1 ee (by first | (simp only [hb45, hb46]; done) | (simp only [hb45, hb46]; rfl) | simp [hb45, hb46])
 with_reducible refine wv (.pointer (some ⟨g2, 17, none⟩)) ?_
 try simp only [nP, nN, nA, n0, nS]
 with_reducible refine wg (g2) (17) (m.t.cells) (rowMid Zb1 (17) (partOf 17 (by kernel_rfl))) Tryd.underlying30 ?_
 try simp only [nP, nN, nA, n0, nS]
 with_reducible refine wc 109 #[.agg (m.t.cells).toArray] (rtf m.t z1 B0 (Nat.le_trans hB ee.size) (ok.t.below ee hB)) ?_
 rintro e z3 ⟨rfl, t⟩
 refine ⟨_, rfl, ?_⟩
 have Zb1 := hpB Zb1 t
 have ee := ee.trans (t.mono ee.size)
 clear t
 generalize hb47 : m.t.formed = b47
 try simp only [nP, nN, nA, n0, nS]
 cases b47
 ·with_reducible refine wv (.bool true) ?_
  try simp only [nP, nN, nA, n0, nS]
  with_reducible refine wv (.bool true) ?_
  try simp only [nP, nN, nA, n0, nS]
  with_reducible refine wv (.bool true) ?_
  try simp only [nP, nN, nA, n0, nS]
  with_reducible refine wk ?_
  try simp only [nP, nN, nA, n0, nS]
  with_reducible refine wk ?_
  try simp only [nP, nN, nA, n0, nS]
  with_reducible refine wk ?_
  try simp only [nP, nN, nA, n0, nS]
  with_reducible refine wk ?_
  try simp only [nP, nN, nA, n0, nS]
  with_reducible refine wk ?_
  try simp only [nP, nN, nA, n0, nS]
  with_reducible refine wk ?_
  try simp only [nP, nN, nA, n0, nS]
  with_reducible refine wk ?_
  try simp only [nP, nN, nA, n0, nS]
  with_reducible refine wk ?_
  try simp only [nP, nN, nA, n0, nS]
  with_reducible refine wk ?_
  try simp only [nP, nN, nA, n0, nS]
  with_reducible refine wk ?_
  try simp only [nP, nN, nA, n0, nS]
  with_reducible refine wv (.bool true) ?_
  try simp only [nP, nN, nA, n0, nS]
  refine wpList_nil ?_
  exact hjK5 _ _ _ _ _ _ _ _ _ _ _ _ _ _ _ _ _ _ _ true _ Zb1 ee (by first | (simp only [hb45, hb47]; done) | (simp only [hb45, hb47]; rfl) | simp [hb45, hb47])
 with_reducible refine wv (.bool false) ?_
 try simp only [nP, nN, nA, n0, nS]
 with_reducible refine wv (.bool false) ?_
 try simp only [nP, nN, nA, n0, nS]
 with_reducible refine wv (.bool false) ?_
 try simp only [nP, nN, nA, n0, nS]
 with_reducible refine wv (.int .i64 m.kd) ?_
 try simp only [nP, nN, nA, n0, nS]
 with_reducible refine wc 52 #[.int .i64 m.kd, .string ((⟨#[116, 120, 110]⟩ : ByteArray))] (uses_T m.kd z3) ?_
 rintro e z4 ⟨rfl, hw_⟩
 refine ⟨_, rfl, ?_⟩
 rw [← hw_]
 clear hw_ z4
 rw [hb45]
 try simp only [nP, nN, nA, n0, nS]
 with_reducible refine wv (.bool false) ?_
 try simp only [nP, nN, nA, n0, nS]
 with_reducible refine wv (.bool false) ?_
 try simp only [nP, nN, nA, n0, nS]
 with_reducible refine wk ?_
 try simp only [nP, nN, nA, n0, nS]
 with_reducible refine wk ?_
 try simp only [nP, nN, nA, n0, nS]
 with_reducible refine wk ?_
 try simp only [nP, nN, nA, n0, nS]
 with_reducible refine wk ?_
 try simp only [nP, nN, nA, n0, nS]
 with_reducible refine wk ?_
 try simp only [nP, nN, nA, n0, nS]
 with_reducible refine wv (.bool false) ?_
 try simp only [nP, nN, nA, n0, nS]
 with_reducible refine wv (.bool false) ?_
 try simp only [nP, nN, nA, n0, nS]
 refine wpList_nil ?_
 exact hjK5 _ _ _ _ _ _ _ _ _ _ _ _ _ _ _ _ _ _ _ false _ Zb1 ee (by first | (simp only [hb45, hb47]; done) | (simp only [hb45, hb47]; rfl) | simp [hb45, hb47])
/-- the reference's Formed -/
def T.Ms.rformed (m : Ms) : Bool := (bif (((decide (m.kd < 1) || decide (m.kd > 15)) || (!m.rfirst)) || (!m.rsecond)) then false else (bif (((T.uK m.kd && (!(V.key m.ky.data.toList))) && ((!decide (m.kd = 13)) || (!(m.ky.data.toList == ((⟨#[]⟩ : ByteArray)).data.toList)))) || ((!(T.uK m.kd)) && (!(m.ky.data.toList == ((⟨#[]⟩ : ByteArray)).data.toList)))) then false else (bif ((!(T.uV m.kd)) && (((!decide ((m.ve : Int) = 0)) || (!decide (m.vk = 0 ∧ m.vb = 0 ∧ m.vt.data.toList = ByteArray.empty.data.toList))) || (!decide (m.er = 0)))) then false else (bif (((!(V.formed m.vk m.vb m.vt.data.toList)) || decide (m.er < 0)) || decide (m.er > 11)) then false else (decide ((m.dt.length : Int) ≤ 59900) && (T.uD m.kd || decide ((m.dt.length : Int) = 0)))))))
set_option maxHeartbeats 25600000 in
theorem rmformed_any (m : Ms) (w : World) (B0 : Nat) (hB : B0 ≤ w.heap.size) (ok : MsOk w B0 m) :
  Calls Tryd.prog 14 #[.agg m.cells.toArray] w fun e w' => e = .returned (.bool m.rformed) ∧ Below w.heap.size w w' := by
 have ee : Below w.heap.size w w := Below.refl _ _
 go_enter Tryd.func14, Tryd.ntmps14
 refine wp_seq_k fun K1 hK1 => ?_
 refine wp_region_lit ?_
 with_reducible refine ww (.pointer (some ⟨w.heap.size, 0, none⟩)) (w.alloc (.cells (m.cells).toArray 47)) ?_
 try simp only [nP, nN, nA, n0, nS]
 have sz_g2 := ee.size
 have sz_ := ee.size
 have ee := ee.alloc ee.size (.cells (m.cells).toArray 47)
 have Zb1 := hpN w (.cells (m.cells).toArray 47) rfl
 generalize w.alloc (.cells (m.cells).toArray 47) = z1 at Zb1 ee ⊢
 obtain ⟨g2, hg_g2⟩ : ∃ g_, g_ = w.heap.size := ⟨_, rfl⟩
 have hB_g2 : w.heap.size ≤ g2 := by rw [hg_g2]; exact sz_g2
 rw [← hg_g2] at Zb1 ⊢
 clear hg_g2
 with_reducible refine wv (.bool false) ?_
 try simp only [nP, nN, nA, n0, nS]
 refine wpList_nil ?_
 refine hK1 _ _ ?_
 refine wp_seq_k fun K3 hK3 => ?_
 refine wp_seq_k fun K4 hK4 => ?_
 have hjK4 : ∀ (u3 u4 u5 u6 u7 u8 u9 u10 u11 u12 u13 u14 u15 u16 u17 u18 u19 : Value) (b6 : Bool) (zc4 : World), zc4.heap[g2]? = some (.cells (m.cells).toArray 47 (0, 0)) → Below w.heap.size w zc4 → (((decide (m.kd < 1) || decide (m.kd > 15)) || (!m.rfirst)) || (!m.rsecond)) = b6 → K4 ⟨#[.agg (m.cells).toArray, .pointer (some ⟨g2, 0, none⟩), .bool false, u3, u4, u5, u6, u7, u8, u9, u10, u11, u12, u13, u14, u15, u16, u17, u18, u19, .bool b6, undef, undef, undef, undef, undef, undef, undef, undef, undef, undef, undef, undef, undef, undef, undef, undef, undef, undef, undef, undef, undef, undef, undef, undef, undef, undef, undef, undef, undef, undef, undef, undef, undef, undef, undef, undef, undef, undef, undef, undef, undef, undef, undef, undef, undef, undef, undef, undef, undef, undef, undef, undef, undef, undef, undef, undef, undef, undef, undef, undef, undef, undef, undef, undef, undef, undef, undef, undef, undef, undef, undef, undef, undef, undef, undef, undef, undef, undef, undef], []⟩ zc4 := by
  clear Zb1 ee
  intro u3 u4 u5 u6 u7 u8 u9 u10 u11 u12 u13 u14 u15 u16 u17 u18 u19 b6 zc4 Zb1 ee hb6
  refine hK4 _ _ ?_
  cases b6
  ·refine wp_cond_false (by kernel_rfl) ?_
   refine wp_skip ?_
   refine hK3 _ _ ?_
   refine wp_seq_k fun K7 hK7 => ?_
   refine wp_seq_k fun K8 hK8 => ?_
   have hjK8 : ∀ (u21 u22 u23 u24 u25 u26 u27 u28 u29 u30 u31 u32 u33 u34 u35 u36 u37 u38 u39 u40 u41 u42 u43 u44 u45 u46 u47 u48 u49 : Value) (b10 : Bool) (zc8 : World), zc8.heap[g2]? = some (.cells (m.cells).toArray 47 (0, 0)) → Below w.heap.size w zc8 → (((T.uK m.kd && (!(V.key m.ky.data.toList))) && ((!decide (m.kd = 13)) || (!(m.ky.data.toList == ((⟨#[]⟩ : ByteArray)).data.toList)))) || ((!(T.uK m.kd)) && (!(m.ky.data.toList == ((⟨#[]⟩ : ByteArray)).data.toList)))) = b10 → K8 ⟨#[.agg (m.cells).toArray, .pointer (some ⟨g2, 0, none⟩), .bool false, u3, u4, u5, u6, u7, u8, u9, u10, u11, u12, u13, u14, u15, u16, u17, u18, u19, .bool false, u21, u22, u23, u24, u25, u26, u27, u28, u29, u30, u31, u32, u33, u34, u35, u36, u37, u38, u39, u40, u41, u42, u43, u44, u45, u46, u47, u48, u49, .bool b10, undef, undef, undef, undef, undef, undef, undef, undef, undef, undef, undef, undef, undef, undef, undef, undef, undef, undef, undef, undef, undef, undef, undef, undef, undef, undef, undef, undef, undef, undef, undef, undef, undef, undef, undef, undef, undef, undef, undef, undef, undef, undef, undef, undef, undef, undef, undef, undef, undef], []⟩ zc8 := by
    clear Zb1 ee
    intro u21 u22 u23 u24 u25 u26 u27 u28 u29 u30 u31 u32 u33 u34 u35 u36 u37 u38 u39 u40 u41 u42 u43 u44 u45 u46 u47 u48 u49 b10 zc8 Zb1 ee hb10
    refine hK8 _ _ ?_
    cases b10
    ·refine wp_cond_false (by kernel_rfl) ?_
     refine wp_skip ?_
     refine hK7 _ _ ?_
     refine wp_seq_k fun K11 hK11 => ?_
     refine wp_seq_k fun K12 hK12 => ?_
     have hjK12 : ∀ (u51 u52 u53 u54 u55 u56 u57 u58 u59 u60 u61 u62 u63 u64 u65 u66 u67 u68 u69 : Value) (b14 : Bool) (zc12 : World), zc12.heap[g2]? = some (.cells (m.cells).toArray 47 (0, 0)) → Below w.heap.size w zc12 → ((!(T.uV m.kd)) && (((!decide ((m.ve : Int) = 0)) || (!decide (m.vk = 0 ∧ m.vb = 0 ∧ m.vt.data.toList = ByteArray.empty.data.toList))) || (!decide (m.er = 0)))) = b14 → K12 ⟨#[.agg (m.cells).toArray, .pointer (some ⟨g2, 0, none⟩), .bool false, u3, u4, u5, u6, u7, u8, u9, u10, u11, u12, u13, u14, u15, u16, u17, u18, u19, .bool false, u21, u22, u23, u24, u25, u26, u27, u28, u29, u30, u31, u32, u33, u34, u35, u36, u37, u38, u39, u40, u41, u42, u43, u44, u45, u46, u47, u48, u49, .bool false, u51, u52, u53, u54, u55, u56, u57, u58, u59, u60, u61, u62, u63, u64, u65, u66, u67, u68, u69, .bool b14, undef, undef, undef, undef, undef, undef, undef, undef, undef, undef, undef, undef, undef, undef, undef, undef, undef, undef, undef, undef, undef, undef, undef, undef, undef, undef, undef, undef, undef], []⟩ zc12 := by
      clear Zb1 ee
      intro u51 u52 u53 u54 u55 u56 u57 u58 u59 u60 u61 u62 u63 u64 u65 u66 u67 u68 u69 b14 zc12 Zb1 ee hb14
      refine hK12 _ _ ?_
      cases b14
      ·refine wp_cond_false (by kernel_rfl) ?_
       refine wp_skip ?_
       refine hK11 _ _ ?_
       refine wp_seq_k fun K15 hK15 => ?_
       refine wp_seq_k fun K16 hK16 => ?_
       have hjK16 : ∀ (u71 u72 u73 u74 u75 u76 u77 u78 u79 u80 u81 u82 u83 : Value) (b18 : Bool) (zc16 : World), zc16.heap[g2]? = some (.cells (m.cells).toArray 47 (0, 0)) → Below w.heap.size w zc16 → (((!(V.formed m.vk m.vb m.vt.data.toList)) || decide (m.er < 0)) || decide (m.er > 11)) = b18 → K16 ⟨#[.agg (m.cells).toArray, .pointer (some ⟨g2, 0, none⟩), .bool false, u3, u4, u5, u6, u7, u8, u9, u10, u11, u12, u13, u14, u15, u16, u17, u18, u19, .bool false, u21, u22, u23, u24, u25, u26, u27, u28, u29, u30, u31, u32, u33, u34, u35, u36, u37, u38, u39, u40, u41, u42, u43, u44, u45, u46, u47, u48, u49, .bool false, u51, u52, u53, u54, u55, u56, u57, u58, u59, u60, u61, u62, u63, u64, u65, u66, u67, u68, u69, .bool false, u71, u72, u73, u74, u75, u76, u77, u78, u79, u80, u81, u82, u83, .bool b18, undef, undef, undef, undef, undef, undef, undef, undef, undef, undef, undef, undef, undef, undef, undef], []⟩ zc16 := by
        clear Zb1 ee
        intro u71 u72 u73 u74 u75 u76 u77 u78 u79 u80 u81 u82 u83 b18 zc16 Zb1 ee hb18
        refine hK16 _ _ ?_
        cases b18
        ·refine wp_cond_false (by kernel_rfl) ?_
         refine wp_skip ?_
         refine hK15 _ _ ?_
         refine wp_seq_k fun K19 hK19 => ?_
         have hjK19 : ∀ (u85 u86 u87 u88 u89 u90 u91 u92 u93 u94 u95 u96 u97 u98 u99 : Value) (b21 : Bool) (zc19 : World), zc19.heap[g2]? = some (.cells (m.cells).toArray 47 (0, 0)) → Below w.heap.size w zc19 → (decide ((m.dt.length : Int) ≤ 59900) && (T.uD m.kd || decide ((m.dt.length : Int) = 0))) = b21 → K19 ⟨#[.agg (m.cells).toArray, .pointer (some ⟨g2, 0, none⟩), .bool b21, u3, u4, u5, u6, u7, u8, u9, u10, u11, u12, u13, u14, u15, u16, u17, u18, u19, .bool false, u21, u22, u23, u24, u25, u26, u27, u28, u29, u30, u31, u32, u33, u34, u35, u36, u37, u38, u39, u40, u41, u42, u43, u44, u45, u46, u47, u48, u49, .bool false, u51, u52, u53, u54, u55, u56, u57, u58, u59, u60, u61, u62, u63, u64, u65, u66, u67, u68, u69, .bool false, u71, u72, u73, u74, u75, u76, u77, u78, u79, u80, u81, u82, u83, .bool false, u85, u86, u87, u88, u89, u90, u91, u92, u93, u94, u95, u96, u97, u98, u99], []⟩ zc19 := by
          clear Zb1 ee
          intro u85 u86 u87 u88 u89 u90 u91 u92 u93 u94 u95 u96 u97 u98 u99 b21 zc19 Zb1 ee hb21
          refine hK19 _ _ ?_
          refine wp_ret ?_
          cases b21
          ·exact bodyPost_ret (v := .bool false) (by kernel_rfl) rfl ⟨congrArg (fun b => Ending.returned (.bool b)) (show false = m.rformed from by unfold T.Ms.rformed; first | (simp only [hb6, hb10, hb14, hb18, hb21]; done) | (simp only [hb6, hb10, hb14, hb18, hb21]; rfl) | simp [hb6, hb10, hb14, hb18, hb21]), ee⟩
          exact bodyPost_ret (v := .bool true) (by kernel_rfl) rfl ⟨congrArg (fun b => Ending.returned (.bool b)) (show true = m.rformed from by unfold T.Ms.rformed; first | (simp only [hb6, hb10, hb14, hb18, hb21]; done) | (simp only [hb6, hb10, hb14, hb18, hb21]; rfl) | simp [hb6, hb10, hb14, hb18, hb21]), ee⟩
         refine wp_region_lit ?_
         with_reducible refine wv (.pointer (some ⟨g2, 33, none⟩)) ?_
         try simp only [nP, nN, nA, n0, nS]
         with_reducible refine wl (.slice m.D m.dt.length m.dc) ⟨g2, 33, none⟩ (rowCell Zb1 (33) rfl) Tryd.underlying37 ?_
         try simp only [nP, nN, nA, n0, nS]
         with_reducible refine wv (.int .i64 ((m.dt.length : Int))) ?_
         try simp only [nP, nN, nA, n0, nS]
         obtain ⟨b22, hb22⟩ : ∃ d_ : Bool, (decide ((m.dt.length : Int) ≤ 59900)) = d_ := ⟨_, rfl⟩
         with_reducible refine wb (.bool b22) (.int .i64 ((m.dt.length : Int))) (.int .i64 59900) 3 (run_leqI hb22) ?_
         try simp only [nP, nN, nA, n0, nS]
         with_reducible refine wv (.bool b22) ?_
         try simp only [nP, nN, nA, n0, nS]
         cases b22
         ·have pb22 : ¬ ((m.dt.length : Int) ≤ 59900) := of_decide_eq_false hb22
          with_reducible refine wk ?_
          try simp only [nP, nN, nA, n0, nS]
          with_reducible refine wk ?_
          try simp only [nP, nN, nA, n0, nS]
          with_reducible refine wk ?_
          try simp only [nP, nN, nA, n0, nS]
          with_reducible refine wk ?_
          try simp only [nP, nN, nA, n0, nS]
          with_reducible refine wk ?_
          try simp only [nP, nN, nA, n0, nS]
          with_reducible refine wk ?_
          try simp only [nP, nN, nA, n0, nS]
          with_reducible refine wk ?_
          try simp only [nP, nN, nA, n0, nS]
          with_reducible refine wk ?_
          try simp only [nP, nN, nA, n0, nS]
          with_reducible refine wk ?_
          try simp only [nP, nN, nA, n0, nS]
          with_reducible refine wv (.bool false) ?_
          try simp only [nP, nN, nA, n0, nS]
          with_reducible refine wv (.bool false) ?_
          try simp only [nP, nN, nA, n0, nS]
          refine wpList_nil ?_
          exact hjK19 _ _ _ _ _ _ _ _ _ _ _ _ _ _ _ false _ Zb1 ee (by first | (simp only [hb6, hb10, hb14, hb18, hb22]; done) | (simp only [hb6, hb10, hb14, hb18, hb22]; rfl) | simp [hb6, hb10, hb14, hb18, hb22])
         have pb22 : (m.dt.length : Int) ≤ 59900 := of_decide_eq_true hb22
         with_reducible refine wv (.pointer (some ⟨g2, 0, none⟩)) ?_
         try simp only [nP, nN, nA, n0, nS]
         with_reducible refine wl (.int .i64 m.kd) ⟨g2, 0, none⟩ (rowCell Zb1 (0) rfl) Tryd.underlying3 ?_
         try simp only [nP, nN, nA, n0, nS]
         with_reducible refine wc 52 #[.int .i64 m.kd, .string ((⟨#[100, 97, 116, 97]⟩ : ByteArray))] (uses_D m.kd zc16) ?_
         rintro e z2 ⟨rfl, hw_⟩
         refine ⟨_, rfl, ?_⟩
         rw [← hw_]
         clear hw_ z2
         generalize hb23 : T.uD m.kd = b23
         try simp only [nP, nN, nA, n0, nS]
         with_reducible refine wv (.bool b23) ?_
         try simp only [nP, nN, nA, n0, nS]
         cases b23
         ·with_reducible refine wv (.pointer (some ⟨g2, 33, none⟩)) ?_
          try simp only [nP, nN, nA, n0, nS]
          with_reducible refine wl (.slice m.D m.dt.length m.dc) ⟨g2, 33, none⟩ (rowCell Zb1 (33) rfl) Tryd.underlying37 ?_
          try simp only [nP, nN, nA, n0, nS]
          with_reducible refine wv (.int .i64 ((m.dt.length : Int))) ?_
          try simp only [nP, nN, nA, n0, nS]
          obtain ⟨b24, hb24⟩ : ∃ d_ : Bool, (decide ((m.dt.length : Int) = 0)) = d_ := ⟨_, rfl⟩
          with_reducible refine wb (.bool b24) (.int .i64 ((m.dt.length : Int))) (.int .i64 0) 3 (run_eqlI hb24) ?_
          try simp only [nP, nN, nA, n0, nS]
          with_reducible refine wv (.bool b24) ?_
          try simp only [nP, nN, nA, n0, nS]
          with_reducible refine wv (.bool b24) ?_
          try simp only [nP, nN, nA, n0, nS]
          with_reducible refine wv (.bool b24) ?_
          try simp only [nP, nN, nA, n0, nS]
          refine wpList_nil ?_
          exact hjK19 _ _ _ _ _ _ _ _ _ _ _ _ _ _ _ b24 _ Zb1 ee (by first | (simp only [hb6, hb10, hb14, hb18, hb22, hb23, hb24]; done) | (simp only [hb6, hb10, hb14, hb18, hb22, hb23, hb24]; rfl) | simp [hb6, hb10, hb14, hb18, hb22, hb23, hb24])
         with_reducible refine wk ?_
         try simp only [nP, nN, nA, n0, nS]
         with_reducible refine wk ?_
         try simp only [nP, nN, nA, n0, nS]
         with_reducible refine wk ?_
         try simp only [nP, nN, nA, n0, nS]
         with_reducible refine wk ?_
         try simp only [nP, nN, nA, n0, nS]
         with_reducible refine wv (.bool true) ?_
         try simp only [nP, nN, nA, n0, nS]
         with_reducible refine wv (.bool true) ?_
         try simp only [nP, nN, nA, n0, nS]
         with_reducible refine wv (.bool true) ?_
         try simp only [nP, nN, nA, n0, nS]
         refine wpList_nil ?_
         exact hjK19 _ _ _ _ _ _ _ _ _ _ _ _ _ _ _ true _ Zb1 ee (by first | (simp only [hb6, hb10, hb14, hb18, hb22, hb23]; done) | (simp only [hb6, hb10, hb14, hb18, hb22, hb23]; rfl) | simp [hb6, hb10, hb14, hb18, hb22, hb23])
        refine wp_cond_true (by kernel_rfl) ?_
        refine wp_seq_k fun K25 hK25 => ?_
        refine wp_region_lit ?_
        with_reducible refine wv (.bool false) ?_
        try simp only [nP, nN, nA, n0, nS]
        refine wpList_nil ?_
        refine hK25 _ _ ?_
        refine wp_ret ?_
        refine then_ret ?_
        exact bodyPost_ret (v := .bool false) (by kernel_rfl) rfl ⟨congrArg (fun b => Ending.returned (.bool b)) (show false = m.rformed from by unfold T.Ms.rformed; first | (simp only [hb6, hb10, hb14, hb18]; done) | (simp only [hb6, hb10, hb14, hb18]; rfl) | simp [hb6, hb10, hb14, hb18]), ee⟩
       refine wp_region_lit ?_
       with_reducible refine wv (.pointer (some ⟨g2, 29, none⟩)) ?_
       try simp only [nP, nN, nA, n0, nS]
       with_reducible refine wg (g2) (29) ([.int .i64 m.vk, .int .u64 (m.vb : Int), .string m.vt]) (rowMid Zb1 (29) (partOf 29 (by kernel_rfl))) Tryd.underlying35 ?_
       try simp only [nP, nN, nA, n0, nS]
       with_reducible refine wc 54 #[.agg ([.int .i64 m.vk, .int .u64 (m.vb : Int), .string m.vt]).toArray] (rfm m.vk m.vb ok.vb m.vt zc12) ?_
       rintro e z2 ⟨rfl, t⟩
       refine ⟨_, rfl, ?_⟩
       have Zb1 := hpB Zb1 t
       have ee := ee.trans (t.mono ee.size)
       clear t
       generalize hb26 : V.formed m.vk m.vb m.vt.data.toList = b26
       try simp only [nP, nN, nA, n0, nS]
       cases b26
       ·with_reducible refine wv (.bool true) ?_
        try simp only [nP, nN, nA, n0, nS]
        with_reducible refine wv (.bool true) ?_
        try simp only [nP, nN, nA, n0, nS]
        with_reducible refine wk ?_
        try simp only [nP, nN, nA, n0, nS]
        with_reducible refine wk ?_
        try simp only [nP, nN, nA, n0, nS]
        with_reducible refine wk ?_
        try simp only [nP, nN, nA, n0, nS]
        with_reducible refine wv (.bool true) ?_
        try simp only [nP, nN, nA, n0, nS]
        with_reducible refine wv (.bool true) ?_
        try simp only [nP, nN, nA, n0, nS]
        with_reducible refine wk ?_
        try simp only [nP, nN, nA, n0, nS]
        with_reducible refine wk ?_
        try simp only [nP, nN, nA, n0, nS]
        with_reducible refine wk ?_
        try simp only [nP, nN, nA, n0, nS]
        with_reducible refine wv (.bool true) ?_
        try simp only [nP, nN, nA, n0, nS]
        refine wpList_nil ?_
        exact hjK16 _ _ _ _ _ _ _ _ _ _ _ _ _ true _ Zb1 ee (by first | (simp only [hb6, hb10, hb14, hb26]; done) | (simp only [hb6, hb10, hb14, hb26]; rfl) | simp [hb6, hb10, hb14, hb26])
       with_reducible refine wv (.bool false) ?_
       try simp only [nP, nN, nA, n0, nS]
       with_reducible refine wv (.bool false) ?_
       try simp only [nP, nN, nA, n0, nS]
       with_reducible refine wv (.pointer (some ⟨g2, 32, none⟩)) ?_
       try simp only [nP, nN, nA, n0, nS]
       with_reducible refine wl (.int .i64 m.er) ⟨g2, 32, none⟩ (rowCell Zb1 (32) rfl) Tryd.underlying36 ?_
       try simp only [nP, nN, nA, n0, nS]
       obtain ⟨b27, hb27⟩ : ∃ d_ : Bool, (decide (m.er < 0)) = d_ := ⟨_, rfl⟩
       with_reducible refine wb (.bool b27) (.int .i64 m.er) (.int .i64 0) 36 (run_lssI hb27) ?_
       try simp only [nP, nN, nA, n0, nS]
       with_reducible refine wv (.bool b27) ?_
       try simp only [nP, nN, nA, n0, nS]
       with_reducible refine wv (.bool b27) ?_
       try simp only [nP, nN, nA, n0, nS]
       cases b27
       ·have pb27 : ¬ (m.er < 0) := of_decide_eq_false hb27
        with_reducible refine wv (.pointer (some ⟨g2, 32, none⟩)) ?_
        try simp only [nP, nN, nA, n0, nS]
        with_reducible refine wl (.int .i64 m.er) ⟨g2, 32, none⟩ (rowCell Zb1 (32) rfl) Tryd.underlying36 ?_
        try simp only [nP, nN, nA, n0, nS]
        obtain ⟨b28, hb28⟩ : ∃ d_ : Bool, (decide (m.er > 11)) = d_ := ⟨_, rfl⟩
        with_reducible refine wb (.bool b28) (.int .i64 m.er) (.int .i64 11) 36 (run_gtrI hb28) ?_
        try simp only [nP, nN, nA, n0, nS]
        with_reducible refine wv (.bool b28) ?_
        try simp only [nP, nN, nA, n0, nS]
        refine wpList_nil ?_
        exact hjK16 _ _ _ _ _ _ _ _ _ _ _ _ _ b28 _ Zb1 ee (by first | (simp only [hb6, hb10, hb14, hb26, hb27, hb28]; done) | (simp only [hb6, hb10, hb14, hb26, hb27, hb28]; rfl) | simp [hb6, hb10, hb14, hb26, hb27, hb28])
       have pb27 : m.er < 0 := of_decide_eq_true hb27
       with_reducible refine wk ?_
       try simp only [nP, nN, nA, n0, nS]
       with_reducible refine wk ?_
       try simp only [nP, nN, nA, n0, nS]
       with_reducible refine wk ?_
       try simp only [nP, nN, nA, n0, nS]
       with_reducible refine wv (.bool true) ?_
       try simp only [nP, nN, nA, n0, nS]
       refine wpList_nil ?_
       exact hjK16 _ _ _ _ _ _ _ _ _ _ _ _ _ true _ Zb1 ee (by first | (simp only [hb6, hb10, hb14, hb26, hb27]; done) | (simp only [hb6, hb10, hb14, hb26, hb27]; rfl) | simp [hb6, hb10, hb14, hb26, hb27])
      refine wp_cond_true (by kernel_rfl) ?_
      refine wp_seq_k fun K29 hK29 => ?_
      refine wp_region_lit ?_
      with_reducible refine wv (.bool false) ?_
      try simp only [nP, nN, nA, n0, nS]
      refine wpList_nil ?_
      refine hK29 _ _ ?_
      refine wp_ret ?_
      refine then_ret ?_
      exact bodyPost_ret (v := .bool false) (by kernel_rfl) rfl ⟨congrArg (fun b => Ending.returned (.bool b)) (show false = m.rformed from by unfold T.Ms.rformed; first | (simp only [hb6, hb10, hb14]; done) | (simp only [hb6, hb10, hb14]; rfl) | simp [hb6, hb10, hb14]), ee⟩
     refine wp_region_lit ?_
     with_reducible refine wv (.pointer (some ⟨g2, 0, none⟩)) ?_
     try simp only [nP, nN, nA, n0, nS]
     with_reducible refine wl (.int .i64 m.kd) ⟨g2, 0, none⟩ (rowCell Zb1 (0) rfl) Tryd.underlying3 ?_
     try simp only [nP, nN, nA, n0, nS]
     with_reducible refine wc 52 #[.int .i64 m.kd, .string ((⟨#[118, 97, 108, 117, 101]⟩ : ByteArray))] (uses_V m.kd zc8) ?_
     rintro e z2 ⟨rfl, hw_⟩
     refine ⟨_, rfl, ?_⟩
     rw [← hw_]
     clear hw_ z2
     generalize hb30 : T.uV m.kd = b30
     try simp only [nP, nN, nA, n0, nS]
     cases b30
     ·with_reducible refine wv (.bool true) ?_
      try simp only [nP, nN, nA, n0, nS]
      with_reducible refine wv (.bool true) ?_
      try simp only [nP, nN, nA, n0, nS]
      with_reducible refine wv (.pointer (some ⟨g2, 28, none⟩)) ?_
      try simp only [nP, nN, nA, n0, nS]
      with_reducible refine wl (.int .u64 ((m.ve : Int))) ⟨g2, 28, none⟩ (rowCell Zb1 (28) rfl) Tryd.underlying31 ?_
      try simp only [nP, nN, nA, n0, nS]
      obtain ⟨b31, hb31⟩ : ∃ d_ : Bool, (decide ((m.ve : Int) = 0)) = d_ := ⟨_, rfl⟩
      cases b31
      ·have pb31 : ¬ ((m.ve : Int) = 0) := of_decide_eq_false hb31
       with_reducible refine wb (.bool true) (.int .u64 ((m.ve : Int))) (.int .u64 0) 31 (run_neqI hb31) ?_
       try simp only [nP, nN, nA, n0, nS]
       with_reducible refine wv (.bool true) ?_
       try simp only [nP, nN, nA, n0, nS]
       with_reducible refine wk ?_
       try simp only [nP, nN, nA, n0, nS]
       with_reducible refine wk ?_
       try simp only [nP, nN, nA, n0, nS]
       with_reducible refine wk ?_
       try simp only [nP, nN, nA, n0, nS]
       with_reducible refine wk ?_
       try simp only [nP, nN, nA, n0, nS]
       with_reducible refine wv (.bool true) ?_
       try simp only [nP, nN, nA, n0, nS]
       with_reducible refine wv (.bool true) ?_
       try simp only [nP, nN, nA, n0, nS]
       with_reducible refine wk ?_
       try simp only [nP, nN, nA, n0, nS]
       with_reducible refine wk ?_
       try simp only [nP, nN, nA, n0, nS]
       with_reducible refine wk ?_
       try simp only [nP, nN, nA, n0, nS]
       with_reducible refine wv (.bool true) ?_
       try simp only [nP, nN, nA, n0, nS]
       with_reducible refine wv (.bool true) ?_
       try simp only [nP, nN, nA, n0, nS]
       refine wpList_nil ?_
       exact hjK12 _ _ _ _ _ _ _ _ _ _ _ _ _ _ _ _ _ _ _ true _ Zb1 ee (by first | (simp only [hb6, hb10, hb30, hb31]; done) | (simp only [hb6, hb10, hb30, hb31]; rfl) | simp [hb6, hb10, hb30, hb31])
      have pb31 : (m.ve : Int) = 0 := of_decide_eq_true hb31
      have eb31 : (m.ve : Int) = 0 := of_decide_eq_true hb31
      with_reducible refine wb (.bool false) (.int .u64 ((m.ve : Int))) (.int .u64 0) 31 (run_neqI hb31) ?_
      try simp only [nP, nN, nA, n0, nS]
      with_reducible refine wv (.bool false) ?_
      try simp only [nP, nN, nA, n0, nS]
      with_reducible refine wv (.pointer (some ⟨g2, 29, none⟩)) ?_
      try simp only [nP, nN, nA, n0, nS]
      with_reducible refine wg (g2) (29) ([.int .i64 m.vk, .int .u64 (m.vb : Int), .string m.vt]) (rowMid Zb1 (29) (partOf 29 (by kernel_rfl))) Tryd.underlying35 ?_
      try simp only [nP, nN, nA, n0, nS]
      with_reducible refine wv (.agg ([.int .i64 0, .int .u64 0, .string ByteArray.empty]).toArray) ?_
      try simp only [nP, nN, nA, n0, nS]
      obtain ⟨b32, hb32⟩ : ∃ d_ : Bool, (decide (m.vk = 0 ∧ m.vb = 0 ∧ m.vt.data.toList = ByteArray.empty.data.toList)) = d_ := ⟨_, rfl⟩
      cases b32
      ·with_reducible refine wb (.bool true) (.agg ([.int .i64 m.vk, .int .u64 (m.vb : Int), .string m.vt]).toArray) (.agg ([.int .i64 0, .int .u64 0, .string ByteArray.empty]).toArray) 35 (run_neOfEq (by have := run_eqvD m.vk m.vb m.vt 0 0 ByteArray.empty zc8; rw [hb32] at this; exact this)) ?_
       try simp only [nP, nN, nA, n0, nS]
       with_reducible refine wv (.bool true) ?_
       try simp only [nP, nN, nA, n0, nS]
       with_reducible refine wv (.bool true) ?_
       try simp only [nP, nN, nA, n0, nS]
       with_reducible refine wk ?_
       try simp only [nP, nN, nA, n0, nS]
       with_reducible refine wk ?_
       try simp only [nP, nN, nA, n0, nS]
       with_reducible refine wk ?_
       try simp only [nP, nN, nA, n0, nS]
       with_reducible refine wv (.bool true) ?_
       try simp only [nP, nN, nA, n0, nS]
       with_reducible refine wv (.bool true) ?_
       try simp only [nP, nN, nA, n0, nS]
       refine wpList_nil ?_
       exact hjK12 _ _ _ _ _ _ _ _ _ _ _ _ _ _ _ _ _ _ _ true _ Zb1 ee (by first | (simp only [hb6, hb10, hb30, hb31, hb32]; done) | (simp only [hb6, hb10, hb30, hb31, hb32]; rfl) | simp [hb6, hb10, hb30, hb31, hb32])
      with_reducible refine wb (.bool false) (.agg ([.int .i64 m.vk, .int .u64 (m.vb : Int), .string m.vt]).toArray) (.agg ([.int .i64 0, .int .u64 0, .string ByteArray.empty]).toArray) 35 (run_neOfEq (by have := run_eqvD m.vk m.vb m.vt 0 0 ByteArray.empty zc8; rw [hb32] at this; exact this)) ?_
      try simp only [nP, nN, nA, n0, nS]
      with_reducible refine wv (.bool false) ?_
      try simp only [nP, nN, nA, n0, nS]
      with_reducible refine wv (.bool false) ?_
      try simp only [nP, nN, nA, n0, nS]
      with_reducible refine wv (.pointer (some ⟨g2, 32, none⟩)) ?_
      try simp only [nP, nN, nA, n0, nS]
      with_reducible refine wl (.int .i64 m.er) ⟨g2, 32, none⟩ (rowCell Zb1 (32) rfl) Tryd.underlying36 ?_
      try simp only [nP, nN, nA, n0, nS]
      obtain ⟨b33, hb33⟩ : ∃ d_ : Bool, (decide (m.er = 0)) = d_ := ⟨_, rfl⟩
      cases b33
      ·have pb33 : ¬ (m.er = 0) := of_decide_eq_false hb33
       with_reducible refine wb (.bool true) (.int .i64 m.er) (.int .i64 0) 36 (run_neqI hb33) ?_
       try simp only [nP, nN, nA, n0, nS]
       with_reducible refine wv (.bool true) ?_
       try simp only [nP, nN, nA, n0, nS]
       with_reducible refine wv (.bool true) ?_
       try simp only [nP, nN, nA, n0, nS]
       refine wpList_nil ?_
       exact hjK12 _ _ _ _ _ _ _ _ _ _ _ _ _ _ _ _ _ _ _ true _ Zb1 ee (by first | (simp only [hb6, hb10, hb30, hb31, hb32, hb33]; done) | (simp only [hb6, hb10, hb30, hb31, hb32, hb33]; rfl) | simp [hb6, hb10, hb30, hb31, hb32, hb33])
      have pb33 : m.er = 0 := of_decide_eq_true hb33
      have eb33 : m.er = 0 := of_decide_eq_true hb33
      with_reducible refine wb (.bool false) (.int .i64 m.er) (.int .i64 0) 36 (run_neqI hb33) ?_
      try simp only [nP, nN, nA, n0, nS]
      with_reducible refine wv (.bool false) ?_
      try simp only [nP, nN, nA, n0, nS]
      with_reducible refine wv (.bool false) ?_
      try simp only [nP, nN, nA, n0, nS]
      refine wpList_nil ?_
      exact hjK12 _ _ _ _ _ _ _ _ _ _ _ _ _ _ _ _ _ _ _ false _ Zb1 ee (by first | (simp only [hb6, hb10, hb30, hb31, hb32, hb33]; done) | (simp only [hb6, hb10, hb30, hb31, hb32, hb33]; rfl) | simp [hb6, hb10, hb30, hb31, hb32, hb33])
     with_reducible refine wv (.bool false) ?_
     try simp only [nP, nN, nA, n0, nS]
     with_reducible refine wv (.bool false) ?_
     try simp only [nP, nN, nA, n0, nS]
     with_reducible refine wk ?_
     try simp only [nP, nN, nA, n0, nS]
     with_reducible refine wk ?_
     try simp only [nP, nN, nA, n0, nS]
     with_reducible refine wk ?_
     try simp only [nP, nN, nA, n0, nS]
     with_reducible refine wk ?_
     try simp only [nP, nN, nA, n0, nS]
     with_reducible refine wk ?_
     try simp only [nP, nN, nA, n0, nS]
     with_reducible refine wk ?_
     try simp only [nP, nN, nA, n0, nS]
     with_reducible refine wk ?_
     try simp only [nP, nN, nA, n0, nS]
     with_reducible refine wk ?_
     try simp only [nP, nN, nA, n0, nS]
     with_reducible refine wk ?_
     try simp only [nP, nN, nA, n0, nS]
     with_reducible refine wk ?_
     try simp only [nP, nN, nA, n0, nS]
     with_reducible refine wk ?_
     try simp only [nP, nN, nA, n0, nS]
     with_reducible refine wk ?_
     try simp only [nP, nN, nA, n0, nS]
     with_reducible refine wk ?_
     try simp only [nP, nN, nA, n0, nS]
     with_reducible refine wk ?_
     try simp only [nP, nN, nA, n0, nS]
     with_reducible refine wv (.bool false) ?_
     try simp only [nP, nN, nA, n0, nS]
     refine wpList_nil ?_
     exact hjK12 _ _ _ _ _ _ _ _ _ _ _ _ _ _ _ _ _ _ _ false _ Zb1 ee (by first | (simp only [hb6, hb10, hb30]; done) | (simp only [hb6, hb10, hb30]; rfl) | simp [hb6, hb10, hb30])
    refine wp_cond_true (by kernel_rfl) ?_
    refine wp_seq_k fun K34 hK34 => ?_
    refine wp_region_lit ?_
    with_reducible refine wv (.bool false) ?_
    try simp only [nP, nN, nA, n0, nS]
    refine wpList_nil ?_
    refine hK34 _ _ ?_
    refine wp_ret ?_
    refine then_ret ?_
    exact bodyPost_ret (v := .bool false) (by kernel_rfl) rfl ⟨congrArg (fun b => Ending.returned (.bool b)) (show false = m.rformed from by unfold T.Ms.rformed; first | (simp only [hb6, hb10]; done) | (simp only [hb6, hb10]; rfl) | simp [hb6, hb10]), ee⟩
   refine wp_region_lit ?_
   with_reducible refine wv (.pointer (some ⟨g2, 0, none⟩)) ?_
   try simp only [nP, nN, nA, n0, nS]
   with_reducible refine wl (.int .i64 m.kd) ⟨g2, 0, none⟩ (rowCell Zb1 (0) rfl) Tryd.underlying3 ?_
   try simp only [nP, nN, nA, n0, nS]
   with_reducible refine wc 52 #[.int .i64 m.kd, .string ((⟨#[107, 101, 121]⟩ : ByteArray))] (uses_K m.kd zc4) ?_
   rintro e z2 ⟨rfl, hw_⟩
   refine ⟨_, rfl, ?_⟩
   rw [← hw_]
   clear hw_ z2
   generalize hb35 : T.uK m.kd = b35
   try simp only [nP, nN, nA, n0, nS]
   with_reducible refine wv (.bool b35) ?_
   try simp only [nP, nN, nA, n0, nS]
   cases b35
   ·with_reducible refine wk ?_
    try simp only [nP, nN, nA, n0, nS]
    with_reducible refine wk ?_
    try simp only [nP, nN, nA, n0, nS]
    with_reducible refine wk ?_
    try simp only [nP, nN, nA, n0, nS]
    with_reducible refine wk ?_
    try simp only [nP, nN, nA, n0, nS]
    with_reducible refine wv (.bool false) ?_
    try simp only [nP, nN, nA, n0, nS]
    with_reducible refine wv (.bool false) ?_
    try simp only [nP, nN, nA, n0, nS]
    with_reducible refine wk ?_
    try simp only [nP, nN, nA, n0, nS]
    with_reducible refine wk ?_
    try simp only [nP, nN, nA, n0, nS]
    with_reducible refine wk ?_
    try simp only [nP, nN, nA, n0, nS]
    with_reducible refine wk ?_
    try simp only [nP, nN, nA, n0, nS]
    with_reducible refine wk ?_
    try simp only [nP, nN, nA, n0, nS]
    with_reducible refine wk ?_
    try simp only [nP, nN, nA, n0, nS]
    with_reducible refine wk ?_
    try simp only [nP, nN, nA, n0, nS]
    with_reducible refine wk ?_
    try simp only [nP, nN, nA, n0, nS]
    with_reducible refine wv (.bool false) ?_
    try simp only [nP, nN, nA, n0, nS]
    with_reducible refine wv (.bool false) ?_
    try simp only [nP, nN, nA, n0, nS]
    with_reducible refine wv (.pointer (some ⟨g2, 0, none⟩)) ?_
    try simp only [nP, nN, nA, n0, nS]
    with_reducible refine wl (.int .i64 m.kd) ⟨g2, 0, none⟩ (rowCell Zb1 (0) rfl) Tryd.underlying3 ?_
    try simp only [nP, nN, nA, n0, nS]
    with_reducible refine wc 52 #[.int .i64 m.kd, .string ((⟨#[107, 101, 121]⟩ : ByteArray))] (uses_K m.kd zc4) ?_
    rintro e z3 ⟨rfl, hw_⟩
    refine ⟨_, rfl, ?_⟩
    rw [← hw_]
    clear hw_ z3
    rw [hb35]
    try simp only [nP, nN, nA, n0, nS]
    with_reducible refine wv (.bool true) ?_
    try simp only [nP, nN, nA, n0, nS]
    with_reducible refine wv (.bool true) ?_
    try simp only [nP, nN, nA, n0, nS]
    with_reducible refine wv (.pointer (some ⟨g2, 27, none⟩)) ?_
    try simp only [nP, nN, nA, n0, nS]
    with_reducible refine wl (.string m.ky) ⟨g2, 27, none⟩ (rowCell Zb1 (27) rfl) Tryd.underlying9 ?_
    try simp only [nP, nN, nA, n0, nS]
    obtain ⟨b36, hb36⟩ : ∃ d_ : Bool, ((m.ky.data.toList == ((⟨#[]⟩ : ByteArray)).data.toList)) = d_ := ⟨_, rfl⟩
    cases b36
    ·with_reducible refine wb (.bool true) (.string m.ky) (.string ((⟨#[]⟩ : ByteArray))) 9 (run_sneB hb36) ?_
     try simp only [nP, nN, nA, n0, nS]
     with_reducible refine wv (.bool true) ?_
     try simp only [nP, nN, nA, n0, nS]
     with_reducible refine wv (.bool true) ?_
     try simp only [nP, nN, nA, n0, nS]
     refine wpList_nil ?_
     exact hjK8 _ _ _ _ _ _ _ _ _ _ _ _ _ _ _ _ _ _ _ _ _ _ _ _ _ _ _ _ _ true _ Zb1 ee (by first | (simp only [hb6, hb35, hb36]; done) | (simp only [hb6, hb35, hb36]; rfl) | simp [hb6, hb35, hb36])
    with_reducible refine wb (.bool false) (.string m.ky) (.string ((⟨#[]⟩ : ByteArray))) 9 (run_sneB hb36) ?_
    try simp only [nP, nN, nA, n0, nS]
    with_reducible refine wv (.bool false) ?_
    try simp only [nP, nN, nA, n0, nS]
    with_reducible refine wv (.bool false) ?_
    try simp only [nP, nN, nA, n0, nS]
    refine wpList_nil ?_
    exact hjK8 _ _ _ _ _ _ _ _ _ _ _ _ _ _ _ _ _ _ _ _ _ _ _ _ _ _ _ _ _ false _ Zb1 ee (by first | (simp only [hb6, hb35, hb36]; done) | (simp only [hb6, hb35, hb36]; rfl) | simp [hb6, hb35, hb36])
   with_reducible refine wv (.pointer (some ⟨g2, 27, none⟩)) ?_
   try simp only [nP, nN, nA, n0, nS]
   with_reducible refine wl (.string m.ky) ⟨g2, 27, none⟩ (rowCell Zb1 (27) rfl) Tryd.underlying9 ?_
   try simp only [nP, nN, nA, n0, nS]
   with_reducible refine wc 53 #[.string m.ky] (rkey_any m.ky zc4 ok.ks) ?_
   rintro e z3 ⟨rfl, hw_⟩
   refine ⟨_, rfl, ?_⟩
   rw [hw_]
   clear hw_ z3
   generalize hb37 : V.key m.ky.data.toList = b37
   try simp only [nP, nN, nA, n0, nS]
   cases b37
   ·with_reducible refine wv (.bool true) ?_
    try simp only [nP, nN, nA, n0, nS]
    with_reducible refine wv (.bool true) ?_
    try simp only [nP, nN, nA, n0, nS]
    with_reducible refine wv (.bool true) ?_
    try simp only [nP, nN, nA, n0, nS]
    with_reducible refine wv (.pointer (some ⟨g2, 0, none⟩)) ?_
    try simp only [nP, nN, nA, n0, nS]
    with_reducible refine wl (.int .i64 m.kd) ⟨g2, 0, none⟩ (rowCell Zb1 (0) rfl) Tryd.underlying3 ?_
    try simp only [nP, nN, nA, n0, nS]
    obtain ⟨b38, hb38⟩ : ∃ d_ : Bool, (decide (m.kd = 13)) = d_ := ⟨_, rfl⟩
    cases b38
    ·have pb38 : ¬ (m.kd = 13) := of_decide_eq_false hb38
     with_reducible refine wb (.bool true) (.int .i64 m.kd) (.int .i64 13) 3 (run_neqI hb38) ?_
     try simp only [nP, nN, nA, n0, nS]
     with_reducible refine wv (.bool true) ?_
     try simp only [nP, nN, nA, n0, nS]
     with_reducible refine wk ?_
     try simp only [nP, nN, nA, n0, nS]
     with_reducible refine wk ?_
     try simp only [nP, nN, nA, n0, nS]
     with_reducible refine wk ?_
     try simp only [nP, nN, nA, n0, nS]
     with_reducible refine wv (.bool true) ?_
     try simp only [nP, nN, nA, n0, nS]
     with_reducible refine wv (.bool true) ?_
     try simp only [nP, nN, nA, n0, nS]
     with_reducible refine wv (.bool true) ?_
     try simp only [nP, nN, nA, n0, nS]
     with_reducible refine wk ?_
     try simp only [nP, nN, nA, n0, nS]
     with_reducible refine wk ?_
     try simp only [nP, nN, nA, n0, nS]
     with_reducible refine wk ?_
     try simp only [nP, nN, nA, n0, nS]
     with_reducible refine wk ?_
     try simp only [nP, nN, nA, n0, nS]
     with_reducible refine wk ?_
     try simp only [nP, nN, nA, n0, nS]
     with_reducible refine wk ?_
     try simp only [nP, nN, nA, n0, nS]
     with_reducible refine wk ?_
     try simp only [nP, nN, nA, n0, nS]
     with_reducible refine wk ?_
     try simp only [nP, nN, nA, n0, nS]
     with_reducible refine wk ?_
     try simp only [nP, nN, nA, n0, nS]
     with_reducible refine wv (.bool true) ?_
     try simp only [nP, nN, nA, n0, nS]
     refine wpList_nil ?_
     exact hjK8 _ _ _ _ _ _ _ _ _ _ _ _ _ _ _ _ _ _ _ _ _ _ _ _ _ _ _ _ _ true _ Zb1 ee (by first | (simp only [hb6, hb35, hb37, hb38]; done) | (simp only [hb6, hb35, hb37, hb38]; rfl) | simp [hb6, hb35, hb37, hb38])
    have pb38 : m.kd = 13 := of_decide_eq_true hb38
    have eb38 : m.kd = 13 := of_decide_eq_true hb38
    with_reducible refine wb (.bool false) (.int .i64 m.kd) (.int .i64 13) 3 (run_neqI hb38) ?_
    try simp only [nP, nN, nA, n0, nS]
    with_reducible refine wv (.bool false) ?_
    try simp only [nP, nN, nA, n0, nS]
    with_reducible refine wv (.pointer (some ⟨g2, 27, none⟩)) ?_
    try simp only [nP, nN, nA, n0, nS]
    with_reducible refine wl (.string m.ky) ⟨g2, 27, none⟩ (rowCell Zb1 (27) rfl) Tryd.underlying9 ?_
    try simp only [nP, nN, nA, n0, nS]
    obtain ⟨b39, hb39⟩ : ∃ d_ : Bool, ((m.ky.data.toList == ((⟨#[]⟩ : ByteArray)).data.toList)) = d_ := ⟨_, rfl⟩
    cases b39
    ·with_reducible refine wb (.bool true) (.string m.ky) (.string ((⟨#[]⟩ : ByteArray))) 9 (run_sneB hb39) ?_
     try simp only [nP, nN, nA, n0, nS]
     with_reducible refine wv (.bool true) ?_
     try simp only [nP, nN, nA, n0, nS]
     with_reducible refine wv (.bool true) ?_
     try simp only [nP, nN, nA, n0, nS]
     with_reducible refine wv (.bool true) ?_
     try simp only [nP, nN, nA, n0, nS]
     with_reducible refine wk ?_
     try simp only [nP, nN, nA, n0, nS]
     with_reducible refine wk ?_
     try simp only [nP, nN, nA, n0, nS]
     with_reducible refine wk ?_
     try simp only [nP, nN, nA, n0, nS]
     with_reducible refine wk ?_
     try simp only [nP, nN, nA, n0, nS]
     with_reducible refine wk ?_
     try simp only [nP, nN, nA, n0, nS]
     with_reducible refine wk ?_
     try simp only [nP, nN, nA, n0, nS]
     with_reducible refine wk ?_
     try simp only [nP, nN, nA, n0, nS]
     with_reducible refine wk ?_
     try simp only [nP, nN, nA, n0, nS]
     with_reducible refine wk ?_
     try simp only [nP, nN, nA, n0, nS]
     with_reducible refine wv (.bool true) ?_
     try simp only [nP, nN, nA, n0, nS]
     refine wpList_nil ?_
     exact hjK8 _ _ _ _ _ _ _ _ _ _ _ _ _ _ _ _ _ _ _ _ _ _ _ _ _ _ _ _ _ true _ Zb1 ee (by first | (simp only [hb6, hb35, hb37, hb38, hb39]; done) | (simp only [hb6, hb35, hb37, hb38, hb39]; rfl) | simp [hb6, hb35, hb37, hb38, hb39])
    with_reducible refine wb (.bool false) (.string m.ky) (.string ((⟨#[]⟩ : ByteArray))) 9 (run_sneB hb39) ?_
    try simp only [nP, nN, nA, n0, nS]
    with_reducible refine wv (.bool false) ?_
    try simp only [nP, nN, nA, n0, nS]
    with_reducible refine wv (.bool false) ?_
    try simp only [nP, nN, nA, n0, nS]
    with_reducible refine wv (.bool false) ?_
    try simp only [nP, nN, nA, n0, nS]
    with_reducible refine wv (.pointer (some ⟨g2, 0, none⟩)) ?_
    try simp only [nP, nN, nA, n0, nS]
    with_reducible refine wl (.int .i64 m.kd) ⟨g2, 0, none⟩ (rowCell Zb1 (0) rfl) Tryd.underlying3 ?_
    try simp only [nP, nN, nA, n0, nS]
    with_reducible refine wc 52 #[.int .i64 m.kd, .string ((⟨#[107, 101, 121]⟩ : ByteArray))] (uses_K m.kd zc4) ?_
    rintro e z4 ⟨rfl, hw_⟩
    refine ⟨_, rfl, ?_⟩
    rw [← hw_]
    clear hw_ z4
    rw [hb35]
    try simp only [nP, nN, nA, n0, nS]
    with_reducible refine wv (.bool false) ?_
    try simp only [nP, nN, nA, n0, nS]
    with_reducible refine wv (.bool false) ?_
    try simp only [nP, nN, nA, n0, nS]
    with_reducible refine wk ?_
    try simp only [nP, nN, nA, n0, nS]
    with_reducible refine wk ?_
    try simp only [nP, nN, nA, n0, nS]
    with_reducible refine wk ?_
    try simp only [nP, nN, nA, n0, nS]
    with_reducible refine wv (.bool false) ?_
    try simp only [nP, nN, nA, n0, nS]
    with_reducible refine wv (.bool false) ?_
    try simp only [nP, nN, nA, n0, nS]
    refine wpList_nil ?_
    exact hjK8 _ _ _ _ _ _ _ _ _ _ _ _ _ _ _ _ _ _ _ _ _ _ _ _ _ _ _ _ _ false _ Zb1 ee (by first | (simp only [hb6, hb35, hb37, hb38, hb39]; done) | (simp only [hb6, hb35, hb37, hb38, hb39]; rfl) | simp [hb6, hb35, hb37, hb38, hb39])
   with_reducible refine wv (.bool false) ?_
   try simp only [nP, nN, nA, n0, nS]
   with_reducible refine wv (.bool false) ?_
   try simp only [nP, nN, nA, n0, nS]
   with_reducible refine wv (.bool false) ?_
   try simp only [nP, nN, nA, n0, nS]
   with_reducible refine wk ?_
   try simp only [nP, nN, nA, n0, nS]
   with_reducible refine wk ?_
   try simp only [nP, nN, nA, n0, nS]
   with_reducible refine wk ?_
   try simp only [nP, nN, nA, n0, nS]
   with_reducible refine wk ?_
   try simp only [nP, nN, nA, n0, nS]
   with_reducible refine wk ?_
   try simp only [nP, nN, nA, n0, nS]
   with_reducible refine wk ?_
   try simp only [nP, nN, nA, n0, nS]
   with_reducible refine wk ?_
   try simp only [nP, nN, nA, n0, nS]
   with_reducible refine wk ?_
   try simp only [nP, nN, nA, n0, nS]
   with_reducible refine wv (.bool false) ?_
   try simp only [nP, nN, nA, n0, nS]
   with_reducible refine wv (.bool false) ?_
   try simp only [nP, nN, nA, n0, nS]
   with_reducible refine wv (.pointer (some ⟨g2, 0, none⟩)) ?_
   try simp only [nP, nN, nA, n0, nS]
   with_reducible refine wl (.int .i64 m.kd) ⟨g2, 0, none⟩ (rowCell Zb1 (0) rfl) Tryd.underlying3 ?_
   try simp only [nP, nN, nA, n0, nS]
   with_reducible refine wc 52 #[.int .i64 m.kd, .string ((⟨#[107, 101, 121]⟩ : ByteArray))] (uses_K m.kd zc4) ?_
   rintro e z4 ⟨rfl, hw_⟩
   refine ⟨_, rfl, ?_⟩
   rw [← hw_]
   clear hw_ z4
   rw [hb35]
   try simp only [nP, nN, nA, n0, nS]
   with_reducible refine wv (.bool false) ?_
   try simp only [nP, nN, nA, n0, nS]
   with_reducible refine wv (.bool false) ?_
   try simp only [nP, nN, nA, n0, nS]
   with_reducible refine wk ?_
   try simp only [nP, nN, nA, n0, nS]
   with_reducible refine wk ?_
   try simp only [nP, nN, nA, n0, nS]
   with_reducible refine wk ?_
   try simp only [nP, nN, nA, n0, nS]
   with_reducible refine wv (.bool false) ?_
   try simp only [nP, nN, nA, n0, nS]
   with_reducible refine wv (.bool false) ?_
   try simp only [nP, nN, nA, n0, nS]
   refine wpList_nil ?_
   exact hjK8 _ _ _ _ _ _ _ _ _ _ _ _ _ _ _ _ _ _ _ _ _ _ _ _ _ _ _ _ _ false _ Zb1 ee (by first | (simp only [hb6, hb35, hb37]; done) | (simp only [hb6, hb35, hb37]; rfl) | simp [hb6, hb35, hb37])
  refine wp_cond_true (by kernel_rfl) ?_
  refine wp_seq_k fun K40 hK40 => ?_
  refine wp_region_lit ?_
  with_reducible refine wv (.bool false) ?_
  try simp only [nP, nN, nA, n0, nS]
  refine wpList_nil ?_
  refine hK40 _ _ ?_
  refine wp_ret ?_
  refine then_ret ?_
  exact bodyPost_ret (v := .bool false) (by kernel_rfl) rfl ⟨congrArg (fun b => Ending.returned (.bool b)) (show false = m.rformed from by unfold T.Ms.rformed; first | (simp only [hb6]; done) | (simp only [hb6]; rfl) | simp [hb6]), ee⟩
 refine wp_region_lit ?_
 with_reducible refine wv (.pointer (some ⟨g2, 0, none⟩)) ?_
 try simp only [nP, nN, nA, n0, nS]
 with_reducible refine wl (.int .i64 m.kd) ⟨g2, 0, none⟩ (rowCell Zb1 (0) rfl) Tryd.underlying3 ?_
 try simp only [nP, nN, nA, n0, nS]
 obtain ⟨b41, hb41⟩ : ∃ d_ : Bool, (decide (m.kd < 1)) = d_ := ⟨_, rfl⟩
 with_reducible refine wb (.bool b41) (.int .i64 m.kd) (.int .i64 1) 3 (run_lssI hb41) ?_
 try simp only [nP, nN, nA, n0, nS]
 with_reducible refine wv (.bool b41) ?_
 try simp only [nP, nN, nA, n0, nS]
 cases b41
 ·have pb41 : ¬ (m.kd < 1) := of_decide_eq_false hb41
  with_reducible refine wv (.pointer (some ⟨g2, 0, none⟩)) ?_
  try simp only [nP, nN, nA, n0, nS]
  with_reducible refine wl (.int .i64 m.kd) ⟨g2, 0, none⟩ (rowCell Zb1 (0) rfl) Tryd.underlying3 ?_
  try simp only [nP, nN, nA, n0, nS]
  obtain ⟨b42, hb42⟩ : ∃ d_ : Bool, (decide (m.kd > 15)) = d_ := ⟨_, rfl⟩
  with_reducible refine wb (.bool b42) (.int .i64 m.kd) (.int .i64 15) 3 (run_gtrI hb42) ?_
  try simp only [nP, nN, nA, n0, nS]
  with_reducible refine wv (.bool b42) ?_
  try simp only [nP, nN, nA, n0, nS]
  with_reducible refine wv (.bool b42) ?_
  try simp only [nP, nN, nA, n0, nS]
  cases b42
  ·have pb42 : ¬ (m.kd > 15) := of_decide_eq_false hb42
   with_reducible refine wg (g2) (0) (m.cells) (rowAt Zb1) Tryd.underlying47 ?_
   try simp only [nP, nN, nA, n0, nS]
   with_reducible refine wc 50 #[.agg (m.cells).toArray] (rfirst_any m z1 B0 (Nat.le_trans hB ee.size) (ok.below ee hB)) ?_
   rintro e z2 ⟨rfl, t⟩
   refine ⟨_, rfl, ?_⟩
   have Zb1 := hpB Zb1 t
   have ee := ee.trans (t.mono ee.size)
   clear t
   generalize hb43 : m.rfirst = b43
   try simp only [nP, nN, nA, n0, nS]
   cases b43
   ·with_reducible refine wv (.bool true) ?_
    try simp only [nP, nN, nA, n0, nS]
    with_reducible refine wv (.bool true) ?_
    try simp only [nP, nN, nA, n0, nS]
    with_reducible refine wv (.bool true) ?_
    try simp only [nP, nN, nA, n0, nS]
    with_reducible refine wk ?_
    try simp only [nP, nN, nA, n0, nS]
    with_reducible refine wk ?_
    try simp only [nP, nN, nA, n0, nS]
    with_reducible refine wk ?_
    try simp only [nP, nN, nA, n0, nS]
    with_reducible refine wv (.bool true) ?_
    try simp only [nP, nN, nA, n0, nS]
    refine wpList_nil ?_
    exact hjK4 _ _ _ _ _ _ _ _ _ _ _ _ _ _ _ _ _ true _ Zb1 ee (by first | (simp only [hb41, hb42, hb43]; done) | (simp only [hb41, hb42, hb43]; rfl) | simp [hb41, hb42, hb43])
   with_reducible refine wv (.bool false) ?_
   try simp only [nP, nN, nA, n0, nS]
   with_reducible refine wv (.bool false) ?_
   try simp only [nP, nN, nA, n0, nS]
   with_reducible refine wv (.bool false) ?_
   try simp only [nP, nN, nA, n0, nS]
   with_reducible refine wg (g2) (0) (m.cells) (rowAt Zb1) Tryd.underlying47 ?_
   try simp only [nP, nN, nA, n0, nS]
   with_reducible refine wc 51 #[.agg (m.cells).toArray] (rsecond_any m z2 B0 (Nat.le_trans hB ee.size) (ok.below ee hB)) ?_
   rintro e z3 ⟨rfl, t⟩
   refine ⟨_, rfl, ?_⟩
   have Zb1 := hpB Zb1 t
   have ee := ee.trans (t.mono ee.size)
   clear t
   generalize hb44 : m.rsecond = b44
   try simp only [nP, nN, nA, n0, nS]
   cases b44
   ·with_reducible refine wv (.bool true) ?_
    try simp only [nP, nN, nA, n0, nS]
    with_reducible refine wv (.bool true) ?_
    try simp only [nP, nN, nA, n0, nS]
    refine wpList_nil ?_
    exact hjK4 _ _ _ _ _ _ _ _ _ _ _ _ _ _ _ _ _ true _ Zb1 ee (by first | (simp only [hb41, hb42, hb43, hb44]; done) | (simp only [hb41, hb42, hb43, hb44]; rfl) | simp [hb41, hb42, hb43, hb44])
   with_reducible refine wv (.bool false) ?_
   try simp only [nP, nN, nA, n0, nS]
   with_reducible refine wv (.bool false) ?_
   try simp only [nP, nN, nA, n0, nS]
   refine wpList_nil ?_
   exact hjK4 _ _ _ _ _ _ _ _ _ _ _ _ _ _ _ _ _ false _ Zb1 ee (by first | (simp only [hb41, hb42, hb43, hb44]; done) | (simp only [hb41, hb42, hb43, hb44]; rfl) | simp [hb41, hb42, hb43, hb44])
  have pb42 : m.kd > 15 := of_decide_eq_true hb42
  with_reducible refine wk ?_
  try simp only [nP, nN, nA, n0, nS]
  with_reducible refine wk ?_
  try simp only [nP, nN, nA, n0, nS]
  with_reducible refine wk ?_
  try simp only [nP, nN, nA, n0, nS]
  with_reducible refine wv (.bool true) ?_
  try simp only [nP, nN, nA, n0, nS]
  with_reducible refine wv (.bool true) ?_
  try simp only [nP, nN, nA, n0, nS]
  with_reducible refine wk ?_
  try simp only [nP, nN, nA, n0, nS]
  with_reducible refine wk ?_
  try simp only [nP, nN, nA, n0, nS]
  with_reducible refine wk ?_
  try simp only [nP, nN, nA, n0, nS]
  with_reducible refine wv (.bool true) ?_
  try simp only [nP, nN, nA, n0, nS]
  refine wpList_nil ?_
  exact hjK4 _ _ _ _ _ _ _ _ _ _ _ _ _ _ _ _ _ true _ Zb1 ee (by first | (simp only [hb41, hb42]; done) | (simp only [hb41, hb42]; rfl) | simp [hb41, hb42])
 have pb41 : m.kd < 1 := of_decide_eq_true hb41
 with_reducible refine wk ?_
 try simp only [nP, nN, nA, n0, nS]
 with_reducible refine wk ?_
 try simp only [nP, nN, nA, n0, nS]
 with_reducible refine wk ?_
 try simp only [nP, nN, nA, n0, nS]
 with_reducible refine wv (.bool true) ?_
 try simp only [nP, nN, nA, n0, nS]
 with_reducible refine wv (.bool true) ?_
 try simp only [nP, nN, nA, n0, nS]
 with_reducible refine wk ?_
 try simp only [nP, nN, nA, n0, nS]
 with_reducible refine wk ?_
 try simp only [nP, nN, nA, n0, nS]
 with_reducible refine wk ?_
 try simp only [nP, nN, nA, n0, nS]
 with_reducible refine wv (.bool true) ?_
 try simp only [nP, nN, nA, n0, nS]
 with_reducible refine wv (.bool true) ?_
 try simp only [nP, nN, nA, n0, nS]
 with_reducible refine wk ?_
 try simp only [nP, nN, nA, n0, nS]
 with_reducible refine wk ?_
 try simp only [nP, nN, nA, n0, nS]
 with_reducible refine wk ?_
 try simp only [nP, nN, nA, n0, nS]
 with_reducible refine wv (.bool true) ?_
 try simp only [nP, nN, nA, n0, nS]
 refine wpList_nil ?_
 exact hjK4 _ _ _ _ _ _ _ _ _ _ _ _ _ _ _ _ _ true _ Zb1 ee (by first | (simp only [hb41]; done) | (simp only [hb41]; rfl) | simp [hb41])
end Go.Proofs.YtjofjpmhokjhnaaDoor
