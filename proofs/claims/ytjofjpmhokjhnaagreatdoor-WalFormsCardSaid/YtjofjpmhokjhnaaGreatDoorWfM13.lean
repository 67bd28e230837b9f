import Derived.Test.YtjofjpmhokjhnaaGreatDoorWfM12
import Derived.Test.YtjofjpmhokjhnaaGreatDoorWfM8
import Derived.Test.YtjofjpmhokjhnaaGreatDoorWfM3
import Derived.Test.YtjofjpmhokjhnaaGreatDoorWfM2
import Derived.Lib.OthersKept
import Derived.Lib.Strings
import Derived.Lib.Slices
import Derived.Lib.Walk
import Derived.Lib.Bytealg
import Derived.Lib.Bytes
import Derived.Test.YtjofjpmhokjhnaaGreatDoorWfM7
import Derived.Laws.AppendOwnNone
set_option linter.unusedSimpArgs false
set_option linter.unusedVariables false
namespace Go.Proofs.YtjofjpmhokjhnaaGreatDoor
set_option maxRecDepth 20000
open Go.RowKit T
def RefF (w : World) (B g : Nat) (A : Option Addr) (c : Nat) (full : List UInt8) (s : C.St) : Prop :=
 ∃ (at_ : Nat), w.heap[g]? = some (.cells #[.slice A full.length c, .int .i64 (at_ : Int), .bool s.2] 104 (0, 0)) ∧ at_ ≤ full.length ∧ full.length ≤ 1099511627776 ∧ full.length ≤ c ∧ Rd w B A (bc full) ∧ B ≤ g ∧ s.1 = full.drop at_
section
variable {w w' z : World} {B g k : Nat} {A : Option Addr} {c : Nat} {full : List UInt8} {s : C.St} {cs : Array Value}
theorem RefF.ref (h : RefF w B g A c full s) : RefAt w B g s := ⟨A, c, full, h⟩
theorem RefF.fails {l : List UInt8} {f : Bool} (h : RefF w B g A c full (l, f)) : RefF (w.setCell ⟨g, 2, none⟩ (.bool true)) B g A c full (l, true) := by
 obtain ⟨at_, hb, h1, h2, h3, hr, hB, hl⟩ := h
 exact ⟨at_, setAt hb 2 _, h1, h2, h3, hr.grownOther (grownSet w g 2 _) hB, hB, hl⟩
theorem RefF.drewN (h : RefF w B g A c full s) (n : Nat) : RefF (w.drewN n) B g A c full s := h
theorem RefF.drewS (h : RefF w B g A c full s) : RefF w.drew B g A c full s := h
theorem RefF.other (h : RefF w B g A c full s) (hg : w.grownBy w' (some k)) (hk : k ≠ g) (hB : B ≤ k) : RefF w' B g A c full s := by
 obtain ⟨at_, hb, h1, h2, h3, hr, h4, h5⟩ := h
 exact ⟨at_, (hg.block g (ltAt hb) (fun e => hk (by injection e with e; exact e.symm))).trans hb, h1, h2, h3, hr.grownOther hg hB, h4, h5⟩
theorem RefF.below (h : RefF w B g A c full s) (hb : Below w.heap.size w w') : RefF w' B g A c full s := by
 obtain ⟨at_, hb0, h1, h2, h3, hr, h4, h5⟩ := h
 exact ⟨at_, heapB hb0 hb, h1, h2, h3, hr.below (hb.mono (by have := ltAt hb0; omega)), h4, h5⟩
theorem RefF.alloc (h : RefF w B g A c full s) (o : Obj) : RefF (w.alloc o) B g A c full s := h.below ((Below.refl _ _).alloc (Nat.le_refl _) _)
theorem RefF.setNew (h : RefF w B g A c full s) (hk : k ≠ g) (hB : B ≤ k) (i : Nat) (u : Value) : RefF (w.setCell ⟨k, i, none⟩ u) B g A c full s := h.other (grownSet w k i u) hk hB
theorem RefF.lt (h : RefF w B g A c full s) : g < w.heap.size ∧ B ≤ g := by
 obtain ⟨at_, hb0, h1, h2, h3, hr, h4, h5⟩ := h
 exact ⟨ltAt hb0, h4⟩
theorem RefF.row (h : RefF z B g A c full s) (hk : k ≠ g) (hB : B ≤ k) : RefF (z.setRow k cs) B g A c full s := h.other (grownRow z k cs) hk hB
theorem RefF.setN (hk : k ≠ g) (hB : B ≤ k) : ∀ (vs : List Value) (i : Nat) (z : World), RefF z B g A c full s → RefF (z.setCells k i vs) B g A c full s
 | [], _, _, h => h
 | v :: r, i, z, h => RefF.setN hk hB r (i + 1) (z.setCell ⟨k, i, none⟩ v) (h.setNew hk hB i v)
theorem RefF.new (h : w.heap[g]? = some (.cells #[.slice A full.length c, .int .i64 0, .bool false] 104 (0, 0))) (hl : full.length ≤ 1099511627776) (hc : full.length ≤ c) (hr : Rd w B A (bc full)) (hB : B ≤ g) : RefF w B g A c full (full, false) :=
 ⟨0, h, Nat.zero_le _, hl, hc, hr, hB, rfl⟩
end
def RTookF (w : World) (B g : Nat) (A : Option Addr) (c : Nat) (full : List UInt8) (x : Nat) (s : C.St) (e : Ending) (w' : World) : Prop :=
 e = .returned (.int .u64 (x : Int)) ∧ RefF w' B g A c full s ∧ w.grownBy w' (some g)
set_option maxHeartbeats 1600000 in
theorem rtakeF_any (A : Option Addr) (c : Nat) (full : List UInt8) (B g : Nat) (n : Int) (s : C.St) (w : World) (h : RefF w B g A c full s) :
 Calls Tryz.prog 44 #[.pointer (some ⟨g, 0, none⟩), .int .i64 n] w (RTookF w B g A c full (C.take n s).1 (C.take n s).2) := by
 have HH := Lib.hid h
 obtain ⟨at_, hb, hat, hbig, hfc, hr, hB, hl⟩ := h
 have h0 := cellAt hb 0
 have h1 := cellAt hb 1
 have h2 := cellAt hb 2
 have f1 := freeAt hb 1
 have f2 := freeAt hb 2
 simp only [zQ] at h0 h1 h2
 obtain ⟨l, f⟩ := s
 simp only at h2 hl
 have HB := Lib.hid hb
 have HL := Lib.hid hl
 clear hb hl
 obtain ⟨m, hm⟩ : ∃ m, m = full.length := ⟨_, rfl⟩
 rw [← hm] at h0 hat hbig hfc
 have HM := Lib.hid hm
 clear hm
 cases f with
 | true =>
   have hs : C.take n (l, true) = (0, (l, true)) := by
    unfold C.take C.some_
    split
    ·rfl
    ·simp [C.val]
   rw [hs]
   clear hs
   go_enter Tryz.func44, Tryz.ntmps44
   go_wp2_with fail
   go_quiet (fail)
   go_wp2_with fail
   go_ret
   exact ⟨rfl, RefF.fails (HH.out.drewN _), grownFromDrewN (grownSet _ g 2 _)⟩
 | false =>
   by_cases hn : n < 0 ∨ 8 < n
   ·have hs : C.take n (l, false) = (0, (l, true)) := by unfold C.take; rw [if_pos hn]
    rw [hs]
    clear hs
    rcases hn with hn | hn
    ·have hd : decide (n < 0) = true := by simpa using hn
     go_enter Tryz.func44, Tryz.ntmps44
     go_wp2_with fail
     go_quiet (fail)
     go_wp2_with fail
     go_ret
     exact ⟨rfl, RefF.fails (HH.out.drewN _), grownFromDrewN (grownSet _ g 2 _)⟩
    ·have hd : decide (n < 0) = false := by simp; omega
     have hd2 : decide (8 < n) = true := by simpa using hn
     go_enter Tryz.func44, Tryz.ntmps44
     go_wp2_with fail
     go_quiet (fail)
     go_wp2_with fail
     go_ret
     exact ⟨rfl, RefF.fails (HH.out.drewN _), grownFromDrewN (grownSet _ g 2 _)⟩
   ·have hn0 : 0 ≤ n := by omega
    obtain ⟨k, rfl⟩ := Int.eq_ofNat_of_zero_le hn0
    have hd : decide ((k : Int) < 0) = false := by simp
    have hd2 : decide (8 < (k : Int)) = false := by simp; omega
    have hk8 : k ≤ 8 := by omega
    have hll : l.length = m - at_ := by rw [HL.out, List.length_drop, HM.out]
    have hw : IntKind.i64.wrap ((m : Int) - (at_ : Int)) = (m : Int) - (at_ : Int) := by rw [IntKind.wrap_i64]; omega
    by_cases hrem : (m : Int) - (at_ : Int) < (k : Int)
    ·have hs : C.take (k : Int) (l, false) = (0, (l, true)) := by
      unfold C.take C.some_
      rw [if_neg (by omega), if_pos (by right; rw [Int.toNat_natCast]; simp only; omega)]
      simp [C.val]
     rw [hs]
     have hd3 : decide ((m : Int) - (at_ : Int) < (k : Int)) = true := by simpa using hrem
     clear hs hll hn
     go_enter Tryz.func44, Tryz.ntmps44
     go_wp2_with fail
     go_quiet (fail)
     go_wp2_with fail
     go_ret
     exact ⟨rfl, RefF.fails (HH.out.drewN _), grownFromDrewN (grownSet _ g 2 _)⟩
    ·have hs : C.take (k : Int) (l, false) = (C.val 0 (l.take k), (l.drop k, false)) := by
      unfold C.take C.some_
      rw [if_neg (by omega), Int.toNat_natCast, if_neg (by simp only [Bool.false_eq_true, false_or]; omega)]
     rw [hs]
     have hd3 : decide ((m : Int) - (at_ : Int) < (k : Int)) = false := by simp; omega
     have hatk : at_ + k ≤ m := by omega
     have HLL := Lib.hid hll
     clear hs hll hn
     go_enter Tryz.func44, Tryz.ntmps44
     go_wp2_with fail
     go_quiet (fail)
     go_wp2_with fail
     clear hw
     go_loopw [5, 6] (fun x i wr => ∃ j q : Nat, j ≤ k ∧ i = .int .i64 (j : Int) ∧ x = .int .u64 ((C.val 0 (l.take j) : Nat) : Int) ∧ wr = w.drewN q) (fun _ i _ => k - (intOf i).toNat)
     case atStart => exact ⟨0, _, Nat.zero_le _, rfl, by simp [C.val], rfl⟩
     case round =>
      obtain ⟨j, q, hj, rfl, rfl, rfl⟩ := hrel
      by_cases hlt : j < k
      ·have hk2 : at_ + j < (bc full).length := by rw [bc_len, ← HM.out]; omega
       obtain ⟨ab, ao, rfl, _, hca⟩ := hr.at_ hk2
       rw [bc_get] at hca
       have hjo : j < l.length := by rw [HLL.out]; omega
       have hbyte : full[at_ + j]'(by rw [← HM.out]; omega) = l[j]'hjo := by
        have : l[j]'hjo = (full.drop at_)[j]'(by rw [← HL.out]; exact hjo) := by simp only [HL.out]
        rw [this, List.getElem_drop]
       rw [hbyte] at hca
       have hval : C.val 0 (l.take (j + 1)) = C.val 0 (l.take j) * 256 + (l[j]'hjo).toNat := by
        rw [List.take_succ_eq_append_getElem hjo, C.val_app]; rfl
       have hlt7 : C.val 0 (l.take j) < 72057594037927936 := by
        have h1 := C.val_lt (l.take j)
        have h2 : (l.take j).length ≤ 7 := by simp; omega
        have h3 : 256 ^ (l.take j).length ≤ 256 ^ 7 := Nat.pow_le_pow_right (by omega) h2
        omega
       have hby := (l[j]'hjo).toNat_lt
       have HV := Lib.hid hval
       clear hbyte hval hk2
       generalize l[j]'hjo = b at hca HV hby
       generalize C.val 0 (l.take j) = y at HV hlt7 ⊢
       have hb0 : (0 : Int) ≤ (at_ : Int) + (j : Int) := by omega
       have hb1 : (at_ : Int) + (j : Int) < (m : Int) := by omega
       have hw1 : IntKind.i64.wrap ((at_ : Int) + (j : Int)) = (at_ : Int) + (j : Int) := by rw [IntKind.wrap_i64]; omega
       have hw2 : IntKind.u64.wrap ((y : Int) * 256) = (y : Int) * 256 := by rw [IntKind.wrap_u64]; omega
       have hw3 : IntKind.u64.wrap ((y : Int) * 256 + (b.toNat : Int)) = (y : Int) * 256 + (b.toNat : Int) := by rw [IntKind.wrap_u64]; omega
       have hti : ((at_ : Int) + (j : Int)).toNat = at_ + j := by omega
       go_wp2_with fail
       go_quiet (fail)
       clear hw1 hw2 hw3
       go_wp2_with fail
       go_roundw
       case rel => exact ⟨j + 1, _, by omega, by go_num, int_of (by rw [HV.out]; omega), rfl⟩
       case measure => simp [intOf]; omega
      ·obtain rfl : j = k := by omega
       go_wp2_with fail
       go_ret
       refine ⟨rfl, ⟨at_ + j, ?_, by rw [← HM.out]; omega, by rw [← HM.out]; exact hbig, by rw [← HM.out]; exact hfc, Rd.grownOther (w := w.drewN _) (hr.drewN _) (grownSet _ g 1 _) hB, hB, ?_⟩, grownFromDrewN (grownSet _ g 1 _)⟩
       ·rw [show ((at_ + j : Nat) : Int) = (at_ : Int) + (j : Int) from by omega]
        exact refSet HB.out _ _
       ·show l.drop j = full.drop (at_ + j)
        rw [HL.out, List.drop_drop]
end Go.Proofs.YtjofjpmhokjhnaaGreatDoor
namespace Go.Proofs.YtjofjpmhokjhnaaGreatDoor
set_option maxRecDepth 20001
open Go.RowKit Go.ChangeShapes Go.WideShapes Go.ChangeAt T
section
variable {W : World} {v : Value}
theorem Arg.cmd (h : Arg W 33 v) :
 ∃ (k s q : Int) (rs : List Rd1) (ws : List Wr1) (A1 : Option Addr) (c1 : Nat) (A2 : Option Addr) (c2 : Nat) (i j g : Int) (st : Nat) (y : Bool),
 v = .agg #[.int .i64 k, .int .i64 s, .int .i64 q, .slice A1 rs.length c1, .slice A2 ws.length c2, .int .i64 i, .int .i64 j, .int .i64 g, .int .u64 (st : Int), .bool y] ∧ TxOk W W.heap.size rs ws A1 c1 A2 c2 ∧ st < 18446744073709551616 ∧
  (-9223372036854775808 ≤ k ∧ k ≤ 9223372036854775807) ∧ (-9223372036854775808 ≤ g ∧ g ≤ 9223372036854775807) := by
 obtain ⟨cs, rfl, hc⟩ := h.struct Tryz.underlying33
 obtain ⟨k, s, q, rs, ws, A1, c1, A2, c2, i, j, g, st, y, e, r⟩ := hc.cmd Tryz.underlying33 (by kernel_rfl) (by rfl) (by rfl) (by rfl) (by rfl) (by rfl) (by rfl)
 refine ⟨k, s, q, rs, ws, A1, c1, A2, c2, i, j, g, st, y, ?_, r⟩
 congr 1
 apply Array.ext'
 exact e
end
end Go.Proofs.YtjofjpmhokjhnaaGreatDoor
namespace Go.Proofs.YtjofjpmhokjhnaaGreatDoor
set_option maxRecDepth 20001
open Go.RowKit Go.ChangeShapes Go.WideShapes Go.ChangeAt T
section
variable {W : World} {cs : List Value} {v : Value}
theorem Cel.cm (h : Cel W 33 cs) : ∃ x : Cm, cs = x.cells ∧ CmOk W W.heap.size x := by
 obtain ⟨k, s, q, rs, ws, A1, c1, A2, c2, i, j, g, st, y, e, r, _⟩ := h.cmd Tryz.underlying33 (by kernel_rfl) (by rfl) (by rfl) (by rfl) (by rfl) (by rfl) (by rfl)
 exact ⟨⟨k, s, q, rs, ws, A1, c1, A2, c2, i, j, g, st, y⟩, e, r⟩
theorem Arg.cm (h : Arg W 33 v) : ∃ x : Cm, v = .agg x.cells.toArray ∧ CmOk W W.heap.size x := by
 obtain ⟨⟨cs⟩, rfl, hc⟩ := h.struct Tryz.underlying33
 obtain ⟨x, hx, r⟩ := Cel.cm hc
 exact ⟨x, by rw [show cs = x.cells from hx], r⟩
instance : Inhabited Cm := ⟨Cm.zero⟩
end
end Go.Proofs.YtjofjpmhokjhnaaGreatDoor
namespace Go.Proofs.YtjofjpmhokjhnaaGreatDoor
set_option maxRecDepth 20001
open Go.RowKit T
namespace T
structure Tn where
 s : Int
 q : Int
 rs : List Rd1
 ws : List Wr1
 A1 : Option Addr
 c1 : Nat
 A2 : Option Addr
 c2 : Nat
def Tn.cells (x : Tn) : List Value := [.int .i64 x.s, .int .i64 x.q, .slice x.A1 x.rs.length x.c1, .slice x.A2 x.ws.length x.c2]
def Tn.zero : Tn := ⟨0, 0, [], [], none, 0, none, 0⟩
structure Ms where
 kd : Int
 br : Nat
 bn : Int
 sl : Int
 ha : Bool
 vr : Nat
 vn : Int
 c : Cm
 t : Tn
 ii : Int
 ij : Int
 g : Int
 st : Nat
 ye : Bool
 nu : Int
 ky : ByteArray
 ve : Nat
 vk : Int
 vb : Nat
 vt : ByteArray
 er : Int
 dt : List UInt8
 D : Option Addr
 dc : Nat
def Ms.cells (m : Ms) : List Value := [.int .i64 m.kd, .int .u32 (m.br : Int), .int .i64 m.bn, .int .i64 m.sl, .bool m.ha, .int .u32 (m.vr : Int), .int .i64 m.vn, .int .i64 m.c.k, .int .i64 m.c.s, .int .i64 m.c.q, .slice m.c.A1 m.c.rs.length m.c.c1, .slice m.c.A2 m.c.ws.length m.c.c2, .int .i64 m.c.i, .int .i64 m.c.j, .int .i64 m.c.g, .int .u64 (m.c.st : Int), .bool m.c.y, .int .i64 m.t.s, .int .i64 m.t.q, .slice m.t.A1 m.t.rs.length m.t.c1, .slice m.t.A2 m.t.ws.length m.t.c2, .int .i64 m.ii, .int .i64 m.ij, .int .i64 m.g, .int .u64 (m.st : Int), .bool m.ye, .int .i64 m.nu, .string m.ky, .int .u64 (m.ve : Int), .int .i64 m.vk, .int .u64 (m.vb : Int), .string m.vt, .int .i64 m.er, .slice m.D m.dt.length m.dc]
def Ms.zero (k : Int) : Ms := ⟨k, 0, 0, 0, false, 0, 0, Cm.zero, Tn.zero, 0, 0, 0, 0, false, 0, ByteArray.empty, 0, 0, 0, ByteArray.empty, 0, [], none, 0⟩
end T
theorem Ms.one (m : Ms) : m.cells.toArray.all (·.oneCell') = true := by simp [Ms.cells, Value.oneCell']
theorem Tn.one (x : Tn) : x.cells.toArray.all (·.oneCell') = true := by simp [Tn.cells, Value.oneCell']
theorem sizeBal : (Tryz.prog.info? 24).map (·.size) = some 2 := by kernel_rfl
theorem res_c {P : Program} {fn : Func} {p : Tmp} {ty : TypeId} (h : fn.results = #[.cell p ty]) {tmps : Array Value} {w : World} {g : Nat} {t : TypeId} {cs : List Value} {d : TypeDesc}
 (hp : tmps.getD p undef = .pointer (some ⟨g, 0, none⟩)) (hg : w.heap[g]? = some (.cells cs.toArray t (0, 0)))
 (hu : P.underlying ty = some d) (hd : d.isRow = true) (hi : (P.info? ty).map (·.size) = some cs.length) : (results fn tmps).run P w = .ok (.agg cs.toArray) w := by
 have hp' : tmps[p]?.getD undef = .pointer (some ⟨g, 0, none⟩) := by simpa using hp
 simp [results, h, hp', asAddr, run_loadVar_mid w g 0 ty cs d (rowAt hg) hu hd hi]
structure MsOk (w : World) (B : Nat) (m : Ms) : Prop where
 c : CmOk w B m.c
 t : TxOk w B m.t.rs m.t.ws m.t.A1 m.t.c1 m.t.A2 m.t.c2
 d : Rd w B m.D (bc m.dt)
 dl : m.dt.length ≤ m.dc
 dm : m.dc ≤ maxLen
 dn : m.D = none → m.dt = [] ∧ m.dc = 0
 ks : m.ky.size ≤ 9223372036854775807
 ts : m.vt.size ≤ 9223372036854775807
 br : m.br < 4294967296
 vr : m.vr < 4294967296
 vb : m.vb < 18446744073709551616
 ve : m.ve < 18446744073709551616
 st : m.st < 18446744073709551616
theorem MsOk.below {w w' : World} {B B' : Nat} {m : Ms} (h : MsOk w B m) (hb : Below B' w w') (hB : B ≤ B') : MsOk w' B m := { h with c := h.c.below hb hB, t := h.t.below hb hB, d := h.d.below (hb.mono hB) }
theorem MsOk.more {w : World} {B B' : Nat} {m : Ms} (h : MsOk w B m) (hB : B ≤ B') : MsOk w B' m := { h with c := h.c.more hB, t := h.t.more hB, d := h.d.more hB }
section
open Go.ChangeShapes Go.WideShapes Go.ChangeAt
variable {W : World} {cs : List Value} {v : Value}
end
end Go.Proofs.YtjofjpmhokjhnaaGreatDoor
namespace Go.Proofs.YtjofjpmhokjhnaaGreatDoor
set_option maxRecDepth 20001
open Go.RowKit T
namespace T
structure Rc where
 kd : Int
 br : Nat
 bn : Int
 sl : Int
 c : Cm
 dt : List UInt8
 D : Option Addr
 dc : Nat
def Rc.cells (x : Rc) : List Value := [.int .i64 x.kd, .int .u32 (x.br : Int), .int .i64 x.bn, .int .i64 x.sl, .int .i64 x.c.k, .int .i64 x.c.s, .int .i64 x.c.q, .slice x.c.A1 x.c.rs.length x.c.c1, .slice x.c.A2 x.c.ws.length x.c.c2, .int .i64 x.c.i, .int .i64 x.c.j, .int .i64 x.c.g, .int .u64 (x.c.st : Int), .bool x.c.y, .slice x.D x.dt.length x.dc]
def Rc.zero : Rc := ⟨0, 0, 0, 0, Cm.zero, [], none, 0⟩
end T
instance : Inhabited Rc := ⟨Rc.zero⟩
theorem Rc.one (x : Rc) : x.cells.toArray.all (·.oneCell') = true := by simp [Rc.cells, Value.oneCell']
theorem sizeRc : (Tryz.prog.info? 36).map (·.size) = some 15 := by kernel_rfl
structure RcOk (w : World) (B : Nat) (x : Rc) : Prop where
 c : CmOk w B x.c
 d : Rd w B x.D (bc x.dt)
 dl : x.dt.length ≤ x.dc
 dm : x.dc ≤ maxLen
 dn : x.D = none → x.dt = [] ∧ x.dc = 0
 br : x.br < 4294967296
theorem RcOk.below {w w' : World} {B B' : Nat} {x : Rc} (h : RcOk w B x) (hb : Below B' w w') (hB : B ≤ B') : RcOk w' B x := { h with c := h.c.below hb hB, d := h.d.below (hb.mono hB) }
theorem RcOk.more {w : World} {B B' : Nat} {x : Rc} (h : RcOk w B x) (hB : B ≤ B') : RcOk w B' x := { h with c := h.c.more hB, d := h.d.more hB }
theorem rcZero {w : World} {B : Nat} : RcOk w B Rc.zero := ⟨CmOk.zero, Rd.nil, Nat.le_refl _, by simp [Rc.zero, maxLen], fun _ => ⟨rfl, rfl⟩, by simp [Rc.zero]⟩
section
open Go.ChangeShapes Go.WideShapes Go.ChangeAt
variable {W : World} {cs : List Value} {v : Value}
theorem Cel.rc (h : Cel W 36 cs) : ∃ x : Rc, cs = x.cells ∧ RcOk W W.heap.size x := by
 have hl := h.len Tryz.underlying36
 rw [show Tryz.prog.cellsOf 36 = 15 by kernel_rfl] at hl
 match cs, hl with
 | [q0, q1, q2, q3, q4, q5, q6, q7, q8, q9, q10, q11, q12, q13, q14], _ =>
   obtain ⟨kd, e0, _⟩ := (h.field1 Tryz.underlying36 0 0 3 _ rfl rfl rfl (by kernel_rfl) q0 rfl).i64 Tryz.underlying3
   have hb := h.field Tryz.underlying36 1 _ rfl
   rw [show Tryz.prog.cellsOf _ = 2 by kernel_rfl] at hb
   obtain ⟨sl, e3, _⟩ := (h.field1 Tryz.underlying36 2 3 3 _ rfl rfl rfl (by kernel_rfl) q3 rfl).i64 Tryz.underlying3
   have hc := h.field Tryz.underlying36 3 _ rfl
   rw [show Tryz.prog.cellsOf _ = 10 by kernel_rfl] at hc
   have hd := h.field Tryz.underlying36 4 _ rfl
   rw [show Tryz.prog.cellsOf _ = 1 by kernel_rfl] at hd
   obtain ⟨br, bn, eb, hbr, _⟩ := Cel.bal hb
   obtain ⟨x, ec, hcx⟩ := Cel.cm hc
   have hd1 : Cel W 34 [q14] := hd
   obtain ⟨A, n, c, e14⟩ := hd1.isSlice Tryz.underlying34
   rw [e14] at hd1
   obtain ⟨dt, r1, r2, r3, r4, r5, r6⟩ := Cel.rows (fun b : UInt8 => [Value.int .u8 (b.toNat : Int)]) (fun _ => True) hd1 Tryz.underlying34 (sz := 1) (by kernel_rfl) (by omega) (fun cs hcs => by
    obtain ⟨q, hq, hq8⟩ := hcs.u8 Tryz.underlying5
    refine ⟨UInt8.ofNat q, ?_, trivial⟩
    rw [hq, UInt8.toNat_ofNat', Nat.mod_eq_of_lt hq8])
   have hdr : Rd W W.heap.size A (bc dt) := fun j u hu => by
    unfold bc at hu
    rw [List.getElem?_map] at hu
    obtain ⟨b, hb, rfl⟩ := Option.map_eq_some_iff.1 hu
    obtain ⟨bl, off, e, hlt, hc⟩ := r5 j [.int .u8 (b.toNat : Int)] (by rw [List.getElem?_map, hb]; rfl)
    exact ⟨bl, off, e, hlt, by have := hc 0 _ rfl; simpa using this⟩
   have e15 : q14 = .slice A dt.length c := by rw [e14, r1]
   have hdl : dt.length ≤ c := by omega
   have hdn : A = none → dt = [] ∧ c = 0 := fun h => by have := r4 h; exact ⟨List.eq_nil_of_length_eq_zero (by omega), by omega⟩
   refine ⟨⟨kd, br, bn, sl, x, dt, A, c⟩, ?_, ⟨hcx, hdr, hdl, r3, hdn, hbr⟩⟩
   cases e0; cases e3
   have eb' : [q1, q2] = [.int .u32 (br : Int), .int .i64 bn] := eb
   have ec' : [q4, q5, q6, q7, q8, q9, q10, q11, q12, q13] = x.cells := ec
   unfold Cm.cells at ec'
   simp only [List.cons.injEq, and_true] at eb' ec'
   obtain ⟨rfl, rfl⟩ := eb'
   obtain ⟨rfl, rfl, rfl, rfl, rfl, rfl, rfl, rfl, rfl, rfl⟩ := ec'
   subst e15
   rfl
theorem Arg.rc (h : Arg W 36 v) : ∃ x : Rc, v = .agg x.cells.toArray ∧ RcOk W W.heap.size x := by
 obtain ⟨⟨cs⟩, rfl, hc⟩ := h.struct Tryz.underlying36
 obtain ⟨x, hx, r⟩ := Cel.rc hc
 exact ⟨x, by rw [show cs = x.cells from hx], r⟩
theorem Arg.rcs (h : Arg W 39 v) : ∃ (A : Option Addr) (c : Nat) (ls : List Rc), v = .slice A ls.length c ∧ ls.length ≤ c ∧ c ≤ maxLen ∧ RowsAt W W.heap.size A 15 (ls.map Rc.cells) ∧ ∀ x ∈ ls, RcOk W W.heap.size x := by
 obtain ⟨A, n, c, rfl, hc⟩ := h.slice Tryz.underlying39
 obtain ⟨ls, r1, r2, r3, r4, r5, r6⟩ := hc.rows Rc.cells (fun x => RcOk W W.heap.size x) Tryz.underlying39 (sz := 15) (by kernel_rfl) (by omega) (fun cs hc => Cel.rc hc)
 subst r1
 exact ⟨A, c, ls, rfl, r2, r3, r5, r6⟩
end
end Go.Proofs.YtjofjpmhokjhnaaGreatDoor
namespace Go.Proofs.YtjofjpmhokjhnaaGreatDoor
set_option maxRecDepth 20001
open Go.RowKit T
namespace T
def fieldsOf (k : Int) : List UInt8 := if k = 1 ∨ k = 3 then [66] else if k = 2 then [66, 83, 72] else if k = 4 then [66, 83, 67] else if k = 5 then [66, 83] else if k = 6 then [83, 67] else if k = 7 then [83] else if k = 8 then [84] else if k = 9 then [73, 71, 80] else if k = 10 then [73, 71, 89] else if k = 11 then [73, 71, 80, 89] else if k = 12 then [80, 78, 75] else if k = 13 then [71, 80, 78, 75, 86, 88, 69] else if k = 14 then [78] else if k = 15 then [83, 68] else []
def Ms.put (m o : Ms) (l : Nat) : Ms := if l = 66 then { o with br := m.br, bn := m.bn } else if l = 83 then { o with sl := m.sl } else if l = 72 then (if m.ha then { o with ha := m.ha, vr := m.vr, vn := m.vn, c := m.c } else { o with ha := m.ha }) else if l = 67 then { o with c := m.c } else if l = 84 then { o with t := m.t } else if l = 73 then { o with ii := m.ii, ij := m.ij } else if l = 71 then { o with g := m.g } else if l = 80 then { o with st := m.st } else if l = 89 then { o with ye := m.ye } else if l = 78 then { o with nu := m.nu } else if l = 75 then { o with ky := m.ky } else if l = 86 then { o with ve := m.ve } else if l = 88 then { o with vk := m.vk, vb := m.vb, vt := m.vt } else if l = 69 then { o with er := m.er } else if l = 68 then { o with dt := m.dt, D := m.D, dc := m.dc } else o
def Ms.only (m : Ms) : Ms := (fieldsOf m.kd).foldl (fun o l => m.put o l.toNat) (Ms.zero m.kd)
end T
theorem Ms.built (k : Int) : Tryz.prog.built 79 [(0, .int .i64 k)] = some (Ms.zero k).cells.toArray := by kernel_rfl
end Go.Proofs.YtjofjpmhokjhnaaGreatDoor
namespace Go.Proofs.YtjofjpmhokjhnaaGreatDoor
set_option maxRecDepth 20001
open Go.RowKit T
set_option maxHeartbeats 1000000 in
theorem bequal_any (A : Option Addr) (c : Nat) (l : List UInt8) (A' : Option Addr) (c' : Nat) (l' : List UInt8) (B : Nat) (w : World) (h : Rd w B A (bc l)) (h' : Rd w B A' (bc l')) :
 Calls Tryz.prog 43 #[.slice A l.length c, .slice A' l'.length c'] w fun e w' => e = .returned (.bool (decide (l = l'))) ∧ w = w' := by
 have e1 := run_string_rd (P := Tryz.prog) w 34 5 9 Tryz.underlying34 Tryz.underlying5 Tryz.underlying9 B A c l h
 have e2 := run_string_rd (P := Tryz.prog) w 34 5 9 Tryz.underlying34 Tryz.underlying5 Tryz.underlying9 B A' c' l' h'
 have e3 : (l == l') = decide (l = l') := by
  by_cases q : l = l'
  ·subst q; simp
  ·rw [decide_eq_false q]; simpa using q
 clear h h'
 generalize decide (l = l') = d at e3 ⊢
 go_enter Tryz.func43, Tryz.ntmps43
 go_wp2
 go_ret
 refine ⟨?_, rfl⟩
 rw [← e3]
 rfl
def SameT (x y : Tn) : Bool := decide (x.s = y.s ∧ x.q = y.q ∧ x.rs = y.rs ∧ x.ws = y.ws)
def T.Ms.same (a b : Ms) : Bool := (a.kd == b.kd) && (decide (a.br = b.br ∧ a.bn = b.bn)) && (a.sl == b.sl) && (a.ha == b.ha) && (decide (a.vr = b.vr ∧ a.vn = b.vn)) && (decide (a.ii = b.ii ∧ a.ij = b.ij)) && (a.g == b.g) && ((a.st : Int) == (b.st : Int)) && (a.ye == b.ye) && (a.nu == b.nu) && (a.ky.toList == b.ky.toList) && ((a.ve : Int) == (b.ve : Int)) && (decide (a.vk = b.vk ∧ a.vb = b.vb ∧ a.vt.toList = b.vt.toList)) && (a.er == b.er) && (SameC a.c b.c) && (SameT a.t b.t) && (decide (a.dt = b.dt))
end Go.Proofs.YtjofjpmhokjhnaaGreatDoor
namespace Go.Proofs.YtjofjpmhokjhnaaGreatDoor
set_option maxRecDepth 20001
open Go.RowKit T
set_option maxHeartbeats 800000 in
theorem tid_any (s q : Int) (w : World) :
 Calls Tryz.prog 94 #[.agg #[.int .i64 s, .int .i64 q]] w fun e w' => e = .returned (.bool (idb s q)) ∧ Below w.heap.size w w' := by
 obtain ⟨p, hp⟩ : ∃ p : Bool, p = idb s q := ⟨_, rfl⟩
 rw [← hp]
 have HP := Lib.hid hp
 clear hp
 go_enter Tryz.func94, Tryz.ntmps94
 go_wp2
 all_goals
  go_ret
  refine ⟨ret_bool ?_, (Below.refl _ _).alloc (Nat.le_refl _) _⟩
  rw [HP.out]
  unfold idb
  first | (simp [*]; done) | (simp [*]; intros; omega)
set_option maxHeartbeats 800000 in
theorem rtid_any (s q : Int) (w : World) :
 Calls Tryz.prog 96 #[.agg #[.int .i64 s, .int .i64 q]] w fun e w' => e = .returned (.bool (idb s q)) ∧ Below w.heap.size w w' := by
 obtain ⟨p, hp⟩ : ∃ p : Bool, p = idb s q := ⟨_, rfl⟩
 rw [← hp]
 have HP := Lib.hid hp
 clear hp
 go_enter Tryz.func96, Tryz.ntmps96
 go_wp2
 all_goals
  go_ret
  refine ⟨ret_bool ?_, (Below.refl _ _).alloc (Nat.le_refl _) _⟩
  rw [HP.out]
  unfold idb
  first | (simp [*]; done) | (simp [*]; intros; omega)
set_option maxHeartbeats 800000 in
theorem cgroup_any (g : Int) (w : World) :
 Calls Tryz.prog 95 #[.int .i64 g] w fun e w' => e = .returned (.bool (decide (0 ≤ g ∧ g < 4))) ∧ w = w' := by
 obtain ⟨p, hp⟩ : ∃ p : Bool, p = decide (0 ≤ g ∧ g < 4) := ⟨_, rfl⟩
 rw [← hp]
 have HP := Lib.hid hp
 clear hp
 go_enter Tryz.func95, Tryz.ntmps95
 go_wp2
 all_goals
  go_ret
  refine ⟨ret_bool ?_, rfl⟩
  rw [HP.out]
  first | (simp [*]; done) | (simp [*]; intros; omega)
def T.strs (l : List (List UInt8)) : List Value := l.map fun k => .string ⟨k.toArray⟩
theorem T.strs_len (l : List (List UInt8)) : (strs l).length = l.length := by simp [strs]
theorem T.strs_get (l : List (List UInt8)) (k : Nat) (h : k < (strs l).length) : (strs l)[k] = .string ⟨(l[k]'(by simpa [strs] using h)).toArray⟩ := by simp [strs]
theorem T.good_at (l : List (List UInt8)) (k : Nat) (h : k < l.length) : good l k = (V.key l[k] && (decide (k = 0) || Op.bytesLess (l[k-1]'(by omega)) l[k])) := by
 unfold good
 rw [List.getElem?_eq_getElem h, List.getElem?_eq_getElem (by omega)]
 rfl
set_option maxHeartbeats 3200000 in
theorem rises_any (A : Option Addr) (c : Nat) (l : List (List UInt8)) (w : World) (B : Nat) (hc : l.length ≤ c) (hm : c ≤ maxLen) (hr : Rd w B A (strs l)) (hB : B ≤ w.heap.size) (ho : ∀ x ∈ l, x.length ≤ 9223372036854775807) :
 Calls Tryz.prog 122 #[.slice A l.length c] w fun e w' => e = .returned (.bool (rises l)) ∧ Below w.heap.size w w' := by
 obtain ⟨n, hn⟩ : ∃ n, n = l.length := ⟨_, rfl⟩
 have HN := Lib.hid hn
 rw [← hn] at hc ⊢
 clear hn
 unfold maxLen at hm
 obtain ⟨p0, hp0⟩ : ∃ p0 : Bool, p0 = rises l := ⟨_, rfl⟩
 have HP := Lib.hid hp0
 rw [← hp0]
 clear hp0
 go_enter Tryz.func122, Tryz.ntmps122
 go_wp2_with fail
 go_loopw [3, 4, 7] (fun _ _ i wr => ∃ k : Nat, k ≤ n ∧ i = .int .i64 (k : Int) ∧ Hid (∀ j, j < k → good l j = true) ∧ Below w.heap.size w wr) (fun _ _ i _ => n - (intOf i).toNat)
 case atStart => exact ⟨0, Nat.zero_le _, rfl, fun j hj => absurd hj (Nat.not_lt_zero _), Below.refl _ _⟩
 case round =>
  obtain ⟨k, hk, rfl, HG, hbel⟩ := hrel
  by_cases hlt : k < n
  ·have hkl : k < l.length := by rw [← HN.out]; exact hlt
   have hG := Lib.hid (good_at l k hkl)
   obtain ⟨b, off, rfl, hb, c1⟩ := (hr.belowM hbel hB).at_ (k := k) (by rw [strs_len]; exact hkl)
   rw [strs_get] at c1
   have hsz := ho l[k] (List.getElem_mem hkl)
   obtain ⟨s, hs⟩ : ∃ s : ByteArray, s = ⟨l[k].toArray⟩ := ⟨_, rfl⟩
   rw [← hs] at c1
   have hsd : s.data.toList = l[k] := by rw [hs]
   have hss : s.size ≤ 9223372036854775807 := by rw [← str_size, hsd]; exact hsz
   have HK := Lib.hid (fun z => key_any s z hss)
   rw [hsd] at HK
   have HS := Lib.hid hsd
   clear hs hsd hsz hss
   cases hkey : V.key l[k] with
   | false =>
     rw [hkey] at HK hG
     have hgf : good l k = false := by rw [hG.out]; rfl
     have HR := Lib.hid (HP.out.trans (rises_false l k hkl hgf))
     clear hG HS hkey hgf
     go_wp2_with fail
     refine (HK.out _).mono ?_
     rintro e w1 ⟨rfl, b1⟩
     go_wp2_with fail
     go_ret
     exact ⟨ret_bool HR.out.symm, hbel.trans (b1.mono hbel.size)⟩
   | true =>
     rw [hkey] at HK hG
     clear hkey
     cases k with
     | zero =>
       have HG' : Hid (∀ j, j < 1 → good l j = true) := fun j hj => by
        obtain rfl : j = 0 := by omega
        rw [hG.out]; rfl
       have c1 : wr.cell? ⟨b, off, none⟩ = some (.string s) := c1
       clear HG hG HS
       go_wp2_with fail
       refine (HK.out _).mono ?_
       rintro e w1 ⟨rfl, b1⟩
       go_wp2_with fail
       go_roundw
       case rel => exact ⟨1, by omega, by go_num, HG', hbel.trans (b1.mono hbel.size)⟩
       case measure => first | (simp [intOf]; done) | (simp [intOf]; omega)
     | succ k =>
       have hkl' : k < l.length := by omega
       obtain ⟨b', off', hA', _, c2⟩ := (hr.belowM hbel hB).at_ (k := k) (by rw [strs_len]; exact hkl')
       rw [strs_get] at c2
       obtain ⟨p, hp⟩ : ∃ p : ByteArray, p = ⟨l[k].toArray⟩ := ⟨_, rfl⟩
       rw [← hp] at c2
       have hpd : p.data.toList = l[k] := by rw [hp]
       injection hA' with hA'
       injection hA' with e1 e2
       subst e1; subst e2
       have hG2 : Hid (good l (k + 1) = Op.bytesLess p.toList s.toList) := by
        show _ = _
        rw [hG.out, Lib.toList_data, Lib.toList_data, HS.out, hpd]
        simp
       clear hG HS hp hpd
       have hlt2 : (k : Int) + 1 < (n : Int) := by omega
       cases hless : Op.bytesLess p.toList s.toList with
       | false =>
         have hgf : good l (k + 1) = false := by rw [hG2.out]; exact hless
         have HR := Lib.hid (HP.out.trans (rises_false l (k + 1) hkl hgf))
         clear hG2 hgf
         go_wp2_with fail
         refine (HK.out _).mono ?_
         rintro e w1 ⟨rfl, b1⟩
         have c2 := cellB b1 c2
         go_wp2_with fail
         go_ret
         exact ⟨ret_bool HR.out.symm, hbel.trans (b1.mono hbel.size)⟩
       | true =>
         have HG' : Hid (∀ j, j < k + 1 + 1 → good l j = true) := fun j hj => by
          by_cases e : j = k + 1
          ·subst e; rw [hG2.out]; exact hless
          ·exact HG.out j (by omega)
         clear HG hG2
         go_wp2_with fail
         refine (HK.out _).mono ?_
         rintro e w1 ⟨rfl, b1⟩
         have c2 := cellB b1 c2
         go_wp2_with fail
         go_roundw
         case rel => exact ⟨k + 1 + 1, by omega, by go_num, HG', hbel.trans (b1.mono hbel.size)⟩
         case measure => simp [intOf]; omega
  ·obtain rfl : k = n := by omega
   have hrt : rises l = true := (rises_iff l).2 fun i hi => HG.out i (by rw [HN.out]; exact hi)
   have HR := Lib.hid (HP.out.trans hrt)
   clear HG hrt
   go_wp2_with fail
   go_ret
   exact ⟨ret_bool HR.out.symm, hbel⟩
theorem info_str : (Tryz.prog.info? 9).map (fun i => (i.zero, i.size, i.bytes)) = some (some (.string ByteArray.empty), 1, 16) := by kernel_rfl
def MadeS (w : World) (l : List (List UInt8)) (e : Ending) (w' : World) : Prop :=
 ∃ v, e = .returned v ∧ w'.ownsRow w.heap.size 9 1 v l.length (strs l) ∧ Below w.heap.size w w'
theorem T.strs_app (l m : List (List UInt8)) : strs (l ++ m) = strs l ++ strs m := by simp [strs]
theorem T.encR_map (rs : List Rd1) (k : Nat) (h : k < rs.length) : (rs.map encR)[k]'(by simpa using h) = [.string ⟨rs[k].1.toArray⟩, .int .u64 (rs[k].2 : Int)] := by simp [encR]
theorem T.encW_map (ws : List Wr1) (k : Nat) (h : k < ws.length) : (ws.map encW)[k]'(by simpa using h) = [.string ⟨ws[k].1.toArray⟩, .int .i64 ws[k].2.1, .int .u64 (ws[k].2.2.1 : Int), .string ⟨ws[k].2.2.2.toArray⟩] := by simp [encW]
theorem RowsAt.rd {w : World} {B : Nat} {A : Option Addr} {rs : List Rd1} (h : RowsAt w B A 2 (rs.map encR)) (k : Nat) (hk : k < rs.length) :
 ∃ b off, A = some ⟨b, off, none⟩ ∧ b < B ∧ w.cell? ⟨b, off + k * 2, none⟩ = some (.string ⟨rs[k].1.toArray⟩) ∧ w.cell? ⟨b, off + k * 2 + 1, none⟩ = some (.int .u64 (rs[k].2 : Int)) := by
 obtain ⟨b, off, hA, hb, hc⟩ := h.at_ (i := k) (by simpa using hk)
 rw [encR_map rs k hk] at hc
 exact ⟨b, off, hA, hb, hc 0 _ rfl, hc 1 _ rfl⟩
theorem RowsAt.wr {w : World} {B : Nat} {A : Option Addr} {ws : List Wr1} (h : RowsAt w B A 4 (ws.map encW)) (k : Nat) (hk : k < ws.length) :
 ∃ b off, A = some ⟨b, off, none⟩ ∧ b < B ∧ w.cell? ⟨b, off + k * 4, none⟩ = some (.string ⟨ws[k].1.toArray⟩) ∧ w.cell? ⟨b, off + k * 4 + 1, none⟩ = some (.int .i64 ws[k].2.1) ∧
  w.cell? ⟨b, off + k * 4 + 2, none⟩ = some (.int .u64 (ws[k].2.2.1 : Int)) ∧ w.cell? ⟨b, off + k * 4 + 3, none⟩ = some (.string ⟨ws[k].2.2.2.toArray⟩) := by
 obtain ⟨b, off, hA, hb, hc⟩ := h.at_ (i := k) (by simpa using hk)
 rw [encW_map ws k hk] at hc
 exact ⟨b, off, hA, hb, hc 0 _ rfl, hc 1 _ rfl, hc 2 _ rfl, hc 3 _ rfl⟩
set_option maxHeartbeats 3200000 in
theorem keys_any (s q : Int) (rs : List Rd1) (ws : List Wr1) (A1 : Option Addr) (c1 : Nat) (A2 : Option Addr) (c2 : Nat) (w : World) (B : Nat) (hB : B ≤ w.heap.size) (ok : TxOk w B rs ws A1 c1 A2 c2) (h1 : rs.length ≤ 6) (h2 : ws.length ≤ 6) :
 Calls Tryz.prog 121 #[.agg #[.int .i64 s, .int .i64 q, .slice A1 rs.length c1, .slice A2 ws.length c2]] w (MadeS w (rs.map (·.1) ++ ws.map (·.1))) := by
 obtain ⟨i0, hi, hz0, hz1, hz2⟩ := info_parts info_str
 obtain ⟨n, hn⟩ : ∃ n, n = rs.length := ⟨_, rfl⟩
 obtain ⟨m, hm⟩ : ∃ m, m = ws.length := ⟨_, rfl⟩
 have HN := Lib.hid hn
 have HM := Lib.hid hm
 have HK := Lib.hid ok
 rw [← hn] at h1 ⊢
 rw [← hm] at h2 ⊢
 have rc : n ≤ c1 := by rw [hn]; exact ok.rc
 have wc : m ≤ c2 := by rw [hm]; exact ok.wc
 have rm := ok.rm
 have wm := ok.wm
 unfold maxLen at rm wm
 clear hn hm ok
 have g0 : Below w.heap.size w (w.alloc (.cells #[.int .i64 s, .int .i64 q, .slice A1 n c1, .slice A2 m c2] 30)) := (Below.refl _ _).alloc (Nat.le_refl _) _
 have K2 : Hid ((w.alloc (.cells #[.int .i64 s, .int .i64 q, .slice A1 n c1, .slice A2 m c2] 30)).cell? ⟨w.heap.size, 3, none⟩ = some (.slice A2 m c2)) := by show _ = _; simp
 have S0 : Hid ((w.alloc (.cells #[.int .i64 s, .int .i64 q, .slice A1 n c1, .slice A2 m c2] 30)).heap.size = w.heap.size + 1) := by show _ = _; simp
 go_enter Tryz.func121, Tryz.ntmps121
 go_upto_region 3 with fail
 generalize w.alloc (.cells #[.int .i64 s, .int .i64 q, .slice A1 n c1, .slice A2 m c2] 30) = w0 at g0 K2 S0 ⊢
 have gB : w.heap.size + 1 ≤ w0.heap.size := by rw [S0.out]; exact Nat.le_refl _
 clear S0
 go_loopw [3, 5, 11] (fun v _ i wr => ∃ k : Nat, k ≤ n ∧ i = .int .i64 (k : Int) ∧ wr.ownsRow (w.heap.size + 1) 9 1 v k (strs ((rs.map (·.1)).take k)) ∧ Hid (Below (w.heap.size + 1) w0 wr)) (fun _ _ i _ => n - (intOf i).toNat)
 case atStart => exact ⟨0, Nat.zero_le _, rfl, by simpa [strs] using World.ownsRow_nil _ _ _ _, Below.refl _ _⟩
 case round =>
  obtain ⟨k, hk, rfl, hown, hbel⟩ := hrel
  by_cases hlt : k < n
  ·have hkl : k < rs.length := by rw [← HN.out]; exact hlt
   have hsz : w.heap.size + 1 ≤ wr.heap.size := by have := hbel.out.size; omega
   obtain ⟨b, off, rfl, hb, x0, x1⟩ := (((HK.out.r.below g0 hB).below hbel.out (by omega))).rd k hkl
   have HE : Hid (strs ((rs.map (·.1)).take k) ++ [.string ⟨rs[k].1.toArray⟩] = strs ((rs.map (·.1)).take (k + 1))) := by
    show _ = _
    rw [List.take_add_one, strs_app, List.getElem?_map, List.getElem?_eq_getElem hkl]; rfl
   generalize rs[k] = r at x0 x1 HE
   obtain ⟨ky, ver⟩ := r
   simp only at x0 x1 HE
   go_wp2_with (at_builtin; refine wpList_append_own _ rfl _ _ 172 rfl (w.heap.size + 1) 9 i0 (.string ByteArray.empty) 1 16 Tryz.underlying172 hi hz0 hz1 hz2 rfl (by decide) _ _ _ rfl ((hown.alloc _).alloc _) ⟨wr.heap.size + 1, 0, none⟩ 1 1 [.string ⟨ky.toArray⟩] rfl rfl ?c1 ?c2 ?c3 ?c4 ?c5 ?_)
   case c1 => intro j u hj; match j, hj with | 0, hj => simp at hj; subst hj; simp [Addr.add]
   case c2 => intro u hu; simp at hu; subst hu; rfl
   case c3 => unfold maxLen; omega
   case c4 => omega
   case c5 => simp; omega
   intro v' w3 hown' hgrow _
   have hB3 : Below (w.heap.size + 1) w0 w3 := ((hbel.out.alloc hsz _).alloc (by simp; omega) _).grown hgrow (by simp; omega) (fun g hg => (hown.lt g hg).1)
   rw [HE.out] at hown'
   clear hgrow hown HE
   go_wp2_with fail
   go_roundw
   case rel => exact ⟨k + 1, by omega, by go_num, hown', hB3⟩
   case measure => simp [intOf]; omega
  ·obtain rfl : k = n := by omega
   have hsz : w.heap.size + 1 ≤ wr.heap.size := by have := hbel.out.size; omega
   have x2 : wr.cell? ⟨w.heap.size, 3, none⟩ = some (.slice A2 m c2) := (hbel.out.cell (by simp)).trans K2.out
   have HE0 : strs ((rs.map (·.1)).take k) = strs (rs.map (·.1) ++ (ws.map (·.1)).take 0) := by rw [List.take_of_length_le (by simp [HN.out])]; simp
   rw [HE0] at hown
   clear HE0
   have HB0 := hbel
   clear hbel
   go_upto_region 8 with fail
   clear x2
   go_loopw [3, 7, 24] (fun v _ i wq => ∃ j : Nat, j ≤ m ∧ i = .int .i64 (j : Int) ∧ wq.ownsRow (w.heap.size + 1) 9 1 v (k + j) (strs (rs.map (·.1) ++ (ws.map (·.1)).take j)) ∧ Hid (Below (w.heap.size + 1) w0 wq)) (fun _ _ i _ => m - (intOf i).toNat)
   case atStart => exact ⟨0, Nat.zero_le _, rfl, hown, HB0⟩
   case round =>
    obtain ⟨j, hj, rfl, hown, hbel⟩ := hrel
    by_cases hltj : j < m
    ·have hjl : j < ws.length := by rw [← HM.out]; exact hltj
     have hsz : w.heap.size + 1 ≤ wr.heap.size := by have := hbel.out.size; omega
     obtain ⟨b, off, rfl, hb, x0, x1, x2, x3⟩ := (((HK.out.w.below g0 hB).below hbel.out (by omega))).wr j hjl
     have HE : Hid (strs (rs.map (·.1) ++ (ws.map (·.1)).take j) ++ [.string ⟨ws[j].1.toArray⟩] = strs (rs.map (·.1) ++ (ws.map (·.1)).take (j + 1))) := by
      show _ = _
      rw [List.take_add_one, ← List.append_assoc, strs_app _ (Option.toList _), List.getElem?_map, List.getElem?_eq_getElem hjl]; rfl
     generalize ws[j] = r at x0 x1 x2 x3 HE
     obtain ⟨ky, vk, vb, vt⟩ := r
     simp only at x0 x1 x2 x3 HE
     go_wp2_with (at_builtin; refine wpList_append_own _ rfl _ _ 172 rfl (w.heap.size + 1) 9 i0 (.string ByteArray.empty) 1 16 Tryz.underlying172 hi hz0 hz1 hz2 rfl (by decide) _ _ _ rfl ((hown.alloc _).alloc _) ⟨wr.heap.size + 1, 0, none⟩ 1 1 [.string ⟨ky.toArray⟩] rfl rfl ?c1 ?c2 ?c3 ?c4 ?c5 ?_)
     case c1 => intro j u hj; match j, hj with | 0, hj => simp at hj; subst hj; simp [Addr.add]
     case c2 => intro u hu; simp at hu; subst hu; rfl
     case c3 => unfold maxLen; omega
     case c4 => omega
     case c5 => simp; omega
     intro v' w3 hown' hgrow _
     have hB3 : Below (w.heap.size + 1) w0 w3 := ((hbel.out.alloc hsz _).alloc (by simp; omega) _).grown hgrow (by simp; omega) (fun g hg => (hown.lt g hg).1)
     rw [HE.out] at hown'
     clear hgrow hown HE
     go_wp2_with fail
     go_roundw
     case rel => exact ⟨j + 1, by omega, by go_num, hown', hB3⟩
     case measure => simp [intOf]; omega
    ·obtain rfl : j = m := by omega
     have HL : Hid ((rs.map (·.1) ++ ws.map (·.1)).length = k + j) := by show _ = _; simp [HN.out, HM.out]
     have HE : Hid (strs (rs.map (·.1) ++ (ws.map (·.1)).take j) = strs (rs.map (·.1) ++ ws.map (·.1))) := by show _ = _; rw [List.take_of_length_le (by simp [HM.out])]
     go_wp2_with fail
     go_ret
     rw [HE.out] at hown
     refine ⟨_, rfl, ?_, g0.trans (hbel.out.mono (by omega))⟩
     rw [HL.out]
     exact ownMore hown (by omega)
end Go.Proofs.YtjofjpmhokjhnaaGreatDoor
