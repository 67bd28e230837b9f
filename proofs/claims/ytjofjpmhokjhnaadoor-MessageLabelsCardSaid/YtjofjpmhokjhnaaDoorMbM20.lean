/- message.Same. Conditions: what lies, lies below. (Printed by gen_msg.py.) -/
import Derived.Test.YtjofjpmhokjhnaaDoorMbM6
import Derived.Test.YtjofjpmhokjhnaaDoorMbM15
import Derived.Test.YtjofjpmhokjhnaaDoorMbM18
import Derived.Test.YtjofjpmhokjhnaaDoorMbM2
namespace Go.Proofs.YtjofjpmhokjhnaaDoor
set_option maxRecDepth 20000
open Go.RowKit
namespace V
theorem run_eqv (k : Int) (b : Nat) (t : ByteArray) (k' : Int) (b' : Nat) (t' : ByteArray) (w : World) :
  (binOp .eql 35 (.agg #[.int .i64 k, .int .u64 b, .string t]) (.agg #[.int .i64 k', .int .u64 b', .string t'])).run Tryd.prog w = .ok (.bool (decide (k = k' ∧ b = b' ∧ t.toList = t'.toList))) w := by
 have hf : (Tryd.prog.fieldsOf 35).toList = [{ name := "Kind", type := 3, offset := 0, embedded := false, tag := "", pkgPath := "", byteOffset := 0 },
    { name := "Bits", type := 31, offset := 1, embedded := false, tag := "", pkgPath := "", byteOffset := 8 },
    { name := "Text", type := 9, offset := 2, embedded := false, tag := "", pkgPath := "", byteOffset := 16 }] := by kernel_rfl
 have h27 : Tryd.prog.underlying 35 = some (.struct (Tryd.prog.fieldsOf 35)) := by kernel_rfl
 have e := run_equalIn_struct (P := Tryd.prog) w 9999 35 #[.int .i64 k, .int .u64 b, .string t] #[.int .i64 k', .int .u64 b', .string t'] h27 (by kernel_rfl)
 rw [run_eql_struct, show (10000 : Nat) = 9999 + 1 from rfl, e, hf]
 have e0 : ∀ w, (Op.equalIn 9999 3 (.int .i64 k) (.int .i64 k')).run Tryd.prog w = .ok (k == k') w := fun w => run_equalIn_int w 9998 3 .i64 .i64 k k' Tryd.underlying3
 have e1 : ∀ w, (Op.equalIn 9999 31 (.int .u64 b) (.int .u64 b')).run Tryd.prog w = .ok ((b : Int) == (b' : Int)) w := fun w => run_equalIn_int w 9998 31 .u64 .u64 _ _ Tryd.underlying31
 have e2 : ∀ w, (Op.equalIn 9999 9 (.string t) (.string t')).run Tryd.prog w = .ok (t.toList == t'.toList) w := fun w => run_equalIn_string w 9998 9 t t' Tryd.underlying9
 have p0 : ∀ (x y z : Value) w, (part 3 #[x, y, z] 0).run Tryd.prog w = .ok x w := fun x y z w => by rfl
 have p1 : ∀ (x y z : Value) w, (part 31 #[x, y, z] 1).run Tryd.prog w = .ok y w := fun x y z w => by rfl
 have p2 : ∀ (x y z : Value) w, (part 9 #[x, y, z] 2).run Tryd.prog w = .ok z w := fun x y z w => by rfl
 generalize hd : (9999 : Nat) = d at *
 clear hd e
 by_cases hk : k = k'
 ·subst hk
  by_cases hb : b = b'
  ·subst hb
   by_cases ht : t.toList = t'.toList
   ·simp [Op.eqFields, e0, e1, e2, p0, p1, p2, ht]
   ·simp [Op.eqFields, e0, e1, e2, p0, p1, p2, ht]
  ·simp [Op.eqFields, e0, e1, e2, p0, p1, p2, hb]
   exact fun h => absurd (by omega) hb
 ·simp [Op.eqFields, e0, e1, e2, p0, p1, p2, hk]
end V
end Go.Proofs.YtjofjpmhokjhnaaDoor

namespace Go.Proofs.YtjofjpmhokjhnaaDoor
set_option maxRecDepth 20001
open Go.RowKit T
set_option linter.unusedSimpArgs false
set_option linter.unusedVariables false

set_option maxHeartbeats 25600000 in
theorem msame_any (a b : Ms) (w : World) (B0 : Nat) (hB : B0 ≤ w.heap.size) (ha : MsOk w B0 a) (hb : MsOk w B0 b) :
  Calls Tryd.prog 18 #[.agg a.cells.toArray, .agg b.cells.toArray] w fun e w' => e = .returned (.bool (a.same b)) ∧ Below w.heap.size w w' := by
 have HC := Lib.hid (fun z (hz : Below w.heap.size w z) => (csame_any a.c.k a.c.s a.c.q a.c.rs a.c.ws a.c.A1 a.c.c1 a.c.A2 a.c.c2 a.c.i a.c.j a.c.g a.c.st a.c.y b.c.k b.c.s b.c.q b.c.rs b.c.ws b.c.A1 b.c.c1 b.c.A2 b.c.c2 b.c.i b.c.j b.c.g b.c.st b.c.y z B0 (Nat.le_trans hB hz.size) (ha.c.below hz hB) (hb.c.below hz hB) : Calls Tryd.prog 56 #[.agg a.c.cells.toArray, .agg b.c.cells.toArray] z fun e w' => e = .returned (.bool (SameC a.c b.c)) ∧ Below z.heap.size z w'))
 have HTT := Lib.hid (fun z (hz : Below w.heap.size w z) => (tsame_any a.t.s a.t.q a.t.rs a.t.ws a.t.A1 a.t.c1 a.t.A2 a.t.c2 b.t.s b.t.q b.t.rs b.t.ws b.t.A1 b.t.c1 b.t.A2 b.t.c2 z B0 (Nat.le_trans hB hz.size) (ha.t.below hz hB) (hb.t.below hz hB) : Calls Tryd.prog 57 #[.agg a.t.cells.toArray, .agg b.t.cells.toArray] z fun e w' => e = .returned (.bool (SameT a.t b.t)) ∧ Below z.heap.size z w'))
 have HD := Lib.hid (fun z (hz : Below w.heap.size w z) => bequal_any a.D a.dc a.dt b.D b.dc b.dt B0 z (ha.d.below (hz.mono hB)) (hb.d.below (hz.mono hB)))
 have hI1 := B.run_eqBal a.br a.bn b.br b.bn
 have hI2 := B.run_eqBal a.vr a.vn b.vr b.vn
 have hI3 := run_eqId a.ii a.ij b.ii b.ij
 have hI4 := V.run_eqv a.vk a.vb a.vt b.vk b.vb b.vt
 obtain ⟨R, hR⟩ : ∃ R, R = a.same b := ⟨_, rfl⟩
 have HR := Lib.hid hR
 unfold T.Ms.same at HR
 rw [← hR]
 clear hR ha hb
 generalize h0 : (a.kd == b.kd) = d0 at HR
 generalize (decide (a.br = b.br ∧ a.bn = b.bn)) = d1 at hI1 HR
 generalize h2 : (a.sl == b.sl) = d2 at HR
 generalize h3 : (a.ha == b.ha) = d3 at HR
 generalize (decide (a.vr = b.vr ∧ a.vn = b.vn)) = d4 at hI2 HR
 generalize (decide (a.ii = b.ii ∧ a.ij = b.ij)) = d5 at hI3 HR
 generalize h6 : (a.g == b.g) = d6 at HR
 generalize h7 : ((a.st : Int) == (b.st : Int)) = d7 at HR
 generalize h8 : (a.ye == b.ye) = d8 at HR
 generalize h9 : (a.nu == b.nu) = d9 at HR
 generalize h10 : (a.ky.toList == b.ky.toList) = d10 at HR
 generalize h11 : ((a.ve : Int) == (b.ve : Int)) = d11 at HR
 generalize (decide (a.vk = b.vk ∧ a.vb = b.vb ∧ a.vt.toList = b.vt.toList)) = d12 at hI4 HR
 generalize h13 : (a.er == b.er) = d13 at HR
 generalize SameC a.c b.c = d14 at HC HR
 generalize SameT a.t b.t = d15 at HTT HR
 generalize decide (a.dt = b.dt) = d16 at HD HR
 obtain ⟨w0, hw0⟩ : ∃ w0, w0 = (w.alloc (.cells a.cells.toArray 39)).alloc (.cells b.cells.toArray 39) := ⟨_, rfl⟩
 have ee : Below w.heap.size w w0 := by rw [hw0]; exact ((Below.refl _ _).alloc (Nat.le_refl _) _).alloc (by simp) _
 have Za : w0.heap[w.heap.size]? = some (.cells a.cells.toArray 39) := by rw [hw0]; exact hpA (hpN _ _ rfl) _
 have Zb : w0.heap[w.heap.size + 1]? = some (.cells b.cells.toArray 39) := by rw [hw0]; exact hpN _ _ (by simp)
 go_enter Tryd.func18, Tryd.ntmps18
 go_upto_region 1 with fail
 change Code.wp _ _ _ _ ((w.alloc (.cells a.cells.toArray 39)).alloc (.cells b.cells.toArray 39))
 rw [← hw0]
 clear hw0
 rename_i hK
 refine wp_region_lit ?_
 refine wpList_v (.pointer (some ⟨w.heap.size, 0, none⟩)) (by kernel_rfl) (by kernel_rfl) ?_
 try simp only [nP, nN, nA, n0, nS, nG, List.getElem_cons_zero, List.getElem_cons_succ]
 refine wpList_load1 (.int .i64 a.kd) ⟨w.heap.size, 0, none⟩ 3 _ _ (rowCell Za (0) rfl) (by kernel_rfl) rfl (by kernel_rfl) Tryd.underlying3 rfl ?_
 try simp only [nP, nN, nA, n0, nS, nG, List.getElem_cons_zero, List.getElem_cons_succ]
 refine wpList_v (.pointer (some ⟨w.heap.size + 1, 0, none⟩)) (by kernel_rfl) (by kernel_rfl) ?_
 try simp only [nP, nN, nA, n0, nS, nG, List.getElem_cons_zero, List.getElem_cons_succ]
 refine wpList_load1 (.int .i64 b.kd) ⟨w.heap.size + 1, 0, none⟩ 3 _ _ (rowCell Zb (0) rfl) (by kernel_rfl) rfl (by kernel_rfl) Tryd.underlying3 rfl ?_
 try simp only [nP, nN, nA, n0, nS, nG, List.getElem_cons_zero, List.getElem_cons_succ]
 refine wpList_bin (.bool d0) (.int .i64 a.kd) (.int .i64 b.kd) _ _ _ _ _ (by rw [← h0]; kernel_rfl) (by kernel_rfl) rfl (by kernel_rfl) (by kernel_rfl) (by kernel_rfl) ?_
 try simp only [nP, nN, nA, n0, nS, nG, List.getElem_cons_zero, List.getElem_cons_succ]
 refine wpList_v (.bool d0) (by kernel_rfl) (by kernel_rfl) ?_
 try simp only [nP, nN, nA, n0, nS, nG, List.getElem_cons_zero, List.getElem_cons_succ]
 cases d0 with
 | false =>
  with_reducible refine wpList_tail1 122 4 (.bool false) (by kernel_rfl) (by kernel_rfl) ?_
  intro a' ha hdf
  obtain rfl : R = false := by rw [HR.out]; simp
  refine hK _ _ ?_
  refine wp_ret ?_
  exact bodyPost_ret (v := .bool false) (by simp [results, Tryd.results18, ha]) hdf ⟨rfl, ee⟩
 | true =>
  refine wpList_v (.pointer (some ⟨w.heap.size, 1, none⟩)) (by kernel_rfl) (by kernel_rfl) ?_
  try simp only [nP, nN, nA, n0, nS, nG, List.getElem_cons_zero, List.getElem_cons_succ]
  refine wpList_load_g (by kernel_rfl) 24 _ rfl (w.heap.size) (1) (by kernel_rfl) ([.int .u32 (a.br : Int), .int .i64 a.bn]) _ (rowMid Za (1) (Ms.pb a)) Tryd.underlying24 rfl sizeBal ?_
  try simp only [nP, nN, nA, n0, nS, nG, List.getElem_cons_zero, List.getElem_cons_succ]
  refine wpList_v (.pointer (some ⟨w.heap.size + 1, 1, none⟩)) (by kernel_rfl) (by kernel_rfl) ?_
  try simp only [nP, nN, nA, n0, nS, nG, List.getElem_cons_zero, List.getElem_cons_succ]
  refine wpList_load_g (by kernel_rfl) 24 _ rfl (w.heap.size + 1) (1) (by kernel_rfl) ([.int .u32 (b.br : Int), .int .i64 b.bn]) _ (rowMid Zb (1) (Ms.pb b)) Tryd.underlying24 rfl sizeBal ?_
  try simp only [nP, nN, nA, n0, nS, nG, List.getElem_cons_zero, List.getElem_cons_succ]
  refine wpList_bin (.bool d1) (.agg #[.int .u32 (a.br : Int), .int .i64 a.bn]) (.agg #[.int .u32 (b.br : Int), .int .i64 b.bn]) _ _ _ _ _ (hI1 _) (by kernel_rfl) rfl (by kernel_rfl) (by kernel_rfl) (by kernel_rfl) ?_
  try simp only [nP, nN, nA, n0, nS, nG, List.getElem_cons_zero, List.getElem_cons_succ]
  refine wpList_v (.bool d1) (by kernel_rfl) (by kernel_rfl) ?_
  try simp only [nP, nN, nA, n0, nS, nG, List.getElem_cons_zero, List.getElem_cons_succ]
  refine wpList_v (.bool d1) (by kernel_rfl) (by kernel_rfl) ?_
  try simp only [nP, nN, nA, n0, nS, nG, List.getElem_cons_zero, List.getElem_cons_succ]
  cases d1 with
  | false =>
   with_reducible refine wpList_tail1 122 4 (.bool false) (by kernel_rfl) (by kernel_rfl) ?_
   intro a' ha hdf
   obtain rfl : R = false := by rw [HR.out]; simp
   refine hK _ _ ?_
   refine wp_ret ?_
   exact bodyPost_ret (v := .bool false) (by simp [results, Tryd.results18, ha]) hdf ⟨rfl, ee⟩
  | true =>
   refine wpList_v (.pointer (some ⟨w.heap.size, 3, none⟩)) (by kernel_rfl) (by kernel_rfl) ?_
   try simp only [nP, nN, nA, n0, nS, nG, List.getElem_cons_zero, List.getElem_cons_succ]
   refine wpList_load1 (.int .i64 a.sl) ⟨w.heap.size, 3, none⟩ 3 _ _ (rowCell Za (3) rfl) (by kernel_rfl) rfl (by kernel_rfl) Tryd.underlying3 rfl ?_
   try simp only [nP, nN, nA, n0, nS, nG, List.getElem_cons_zero, List.getElem_cons_succ]
   refine wpList_v (.pointer (some ⟨w.heap.size + 1, 3, none⟩)) (by kernel_rfl) (by kernel_rfl) ?_
   try simp only [nP, nN, nA, n0, nS, nG, List.getElem_cons_zero, List.getElem_cons_succ]
   refine wpList_load1 (.int .i64 b.sl) ⟨w.heap.size + 1, 3, none⟩ 3 _ _ (rowCell Zb (3) rfl) (by kernel_rfl) rfl (by kernel_rfl) Tryd.underlying3 rfl ?_
   try simp only [nP, nN, nA, n0, nS, nG, List.getElem_cons_zero, List.getElem_cons_succ]
   refine wpList_bin (.bool d2) (.int .i64 a.sl) (.int .i64 b.sl) _ _ _ _ _ (by rw [← h2]; kernel_rfl) (by kernel_rfl) rfl (by kernel_rfl) (by kernel_rfl) (by kernel_rfl) ?_
   try simp only [nP, nN, nA, n0, nS, nG, List.getElem_cons_zero, List.getElem_cons_succ]
   refine wpList_v (.bool d2) (by kernel_rfl) (by kernel_rfl) ?_
   try simp only [nP, nN, nA, n0, nS, nG, List.getElem_cons_zero, List.getElem_cons_succ]
   refine wpList_v (.bool d2) (by kernel_rfl) (by kernel_rfl) ?_
   try simp only [nP, nN, nA, n0, nS, nG, List.getElem_cons_zero, List.getElem_cons_succ]
   cases d2 with
   | false =>
    with_reducible refine wpList_tail1 122 4 (.bool false) (by kernel_rfl) (by kernel_rfl) ?_
    intro a' ha hdf
    obtain rfl : R = false := by rw [HR.out]; simp
    refine hK _ _ ?_
    refine wp_ret ?_
    exact bodyPost_ret (v := .bool false) (by simp [results, Tryd.results18, ha]) hdf ⟨rfl, ee⟩
   | true =>
    refine wpList_v (.pointer (some ⟨w.heap.size, 4, none⟩)) (by kernel_rfl) (by kernel_rfl) ?_
    try simp only [nP, nN, nA, n0, nS, nG, List.getElem_cons_zero, List.getElem_cons_succ]
    refine wpList_load1 (.bool a.ha) ⟨w.heap.size, 4, none⟩ 4 _ _ (rowCell Za (4) rfl) (by kernel_rfl) rfl (by kernel_rfl) Tryd.underlying4 rfl ?_
    try simp only [nP, nN, nA, n0, nS, nG, List.getElem_cons_zero, List.getElem_cons_succ]
    refine wpList_v (.pointer (some ⟨w.heap.size + 1, 4, none⟩)) (by kernel_rfl) (by kernel_rfl) ?_
    try simp only [nP, nN, nA, n0, nS, nG, List.getElem_cons_zero, List.getElem_cons_succ]
    refine wpList_load1 (.bool b.ha) ⟨w.heap.size + 1, 4, none⟩ 4 _ _ (rowCell Zb (4) rfl) (by kernel_rfl) rfl (by kernel_rfl) Tryd.underlying4 rfl ?_
    try simp only [nP, nN, nA, n0, nS, nG, List.getElem_cons_zero, List.getElem_cons_succ]
    refine wpList_bin (.bool d3) (.bool a.ha) (.bool b.ha) _ _ _ _ _ (by rw [← h3]; kernel_rfl) (by kernel_rfl) rfl (by kernel_rfl) (by kernel_rfl) (by kernel_rfl) ?_
    try simp only [nP, nN, nA, n0, nS, nG, List.getElem_cons_zero, List.getElem_cons_succ]
    refine wpList_v (.bool d3) (by kernel_rfl) (by kernel_rfl) ?_
    try simp only [nP, nN, nA, n0, nS, nG, List.getElem_cons_zero, List.getElem_cons_succ]
    refine wpList_v (.bool d3) (by kernel_rfl) (by kernel_rfl) ?_
    try simp only [nP, nN, nA, n0, nS, nG, List.getElem_cons_zero, List.getElem_cons_succ]
    cases d3 with
    | false =>
     with_reducible refine wpList_tail1 122 4 (.bool false) (by kernel_rfl) (by kernel_rfl) ?_
     intro a' ha hdf
     obtain rfl : R = false := by rw [HR.out]; simp
     refine hK _ _ ?_
     refine wp_ret ?_
     exact bodyPost_ret (v := .bool false) (by simp [results, Tryd.results18, ha]) hdf ⟨rfl, ee⟩
    | true =>
     refine wpList_v (.pointer (some ⟨w.heap.size, 5, none⟩)) (by kernel_rfl) (by kernel_rfl) ?_
     try simp only [nP, nN, nA, n0, nS, nG, List.getElem_cons_zero, List.getElem_cons_succ]
     refine wpList_load_g (by kernel_rfl) 24 _ rfl (w.heap.size) (5) (by kernel_rfl) ([.int .u32 (a.vr : Int), .int .i64 a.vn]) _ (rowMid Za (5) (Ms.pv a)) Tryd.underlying24 rfl sizeBal ?_
     try simp only [nP, nN, nA, n0, nS, nG, List.getElem_cons_zero, List.getElem_cons_succ]
     refine wpList_v (.pointer (some ⟨w.heap.size + 1, 5, none⟩)) (by kernel_rfl) (by kernel_rfl) ?_
     try simp only [nP, nN, nA, n0, nS, nG, List.getElem_cons_zero, List.getElem_cons_succ]
     refine wpList_load_g (by kernel_rfl) 24 _ rfl (w.heap.size + 1) (5) (by kernel_rfl) ([.int .u32 (b.vr : Int), .int .i64 b.vn]) _ (rowMid Zb (5) (Ms.pv b)) Tryd.underlying24 rfl sizeBal ?_
     try simp only [nP, nN, nA, n0, nS, nG, List.getElem_cons_zero, List.getElem_cons_succ]
     refine wpList_bin (.bool d4) (.agg #[.int .u32 (a.vr : Int), .int .i64 a.vn]) (.agg #[.int .u32 (b.vr : Int), .int .i64 b.vn]) _ _ _ _ _ (hI2 _) (by kernel_rfl) rfl (by kernel_rfl) (by kernel_rfl) (by kernel_rfl) ?_
     try simp only [nP, nN, nA, n0, nS, nG, List.getElem_cons_zero, List.getElem_cons_succ]
     refine wpList_v (.bool d4) (by kernel_rfl) (by kernel_rfl) ?_
     try simp only [nP, nN, nA, n0, nS, nG, List.getElem_cons_zero, List.getElem_cons_succ]
     refine wpList_v (.bool d4) (by kernel_rfl) (by kernel_rfl) ?_
     try simp only [nP, nN, nA, n0, nS, nG, List.getElem_cons_zero, List.getElem_cons_succ]
     cases d4 with
     | false =>
      with_reducible refine wpList_tail1 122 4 (.bool false) (by kernel_rfl) (by kernel_rfl) ?_
      intro a' ha hdf
      obtain rfl : R = false := by rw [HR.out]; simp
      refine hK _ _ ?_
      refine wp_ret ?_
      exact bodyPost_ret (v := .bool false) (by simp [results, Tryd.results18, ha]) hdf ⟨rfl, ee⟩
     | true =>
      refine wpList_v (.pointer (some ⟨w.heap.size, 21, none⟩)) (by kernel_rfl) (by kernel_rfl) ?_
      try simp only [nP, nN, nA, n0, nS, nG, List.getElem_cons_zero, List.getElem_cons_succ]
      refine wpList_load_g (by kernel_rfl) 26 _ rfl (w.heap.size) (21) (by kernel_rfl) ([.int .i64 a.ii, .int .i64 a.ij]) _ (rowMid Za (21) (Ms.pi a)) Tryd.underlying26 rfl sizeId ?_
      try simp only [nP, nN, nA, n0, nS, nG, List.getElem_cons_zero, List.getElem_cons_succ]
      refine wpList_v (.pointer (some ⟨w.heap.size + 1, 21, none⟩)) (by kernel_rfl) (by kernel_rfl) ?_
      try simp only [nP, nN, nA, n0, nS, nG, List.getElem_cons_zero, List.getElem_cons_succ]
      refine wpList_load_g (by kernel_rfl) 26 _ rfl (w.heap.size + 1) (21) (by kernel_rfl) ([.int .i64 b.ii, .int .i64 b.ij]) _ (rowMid Zb (21) (Ms.pi b)) Tryd.underlying26 rfl sizeId ?_
      try simp only [nP, nN, nA, n0, nS, nG, List.getElem_cons_zero, List.getElem_cons_succ]
      refine wpList_bin (.bool d5) (.agg #[.int .i64 a.ii, .int .i64 a.ij]) (.agg #[.int .i64 b.ii, .int .i64 b.ij]) _ _ _ _ _ (hI3 _) (by kernel_rfl) rfl (by kernel_rfl) (by kernel_rfl) (by kernel_rfl) ?_
      try simp only [nP, nN, nA, n0, nS, nG, List.getElem_cons_zero, List.getElem_cons_succ]
      refine wpList_v (.bool d5) (by kernel_rfl) (by kernel_rfl) ?_
      try simp only [nP, nN, nA, n0, nS, nG, List.getElem_cons_zero, List.getElem_cons_succ]
      refine wpList_v (.bool d5) (by kernel_rfl) (by kernel_rfl) ?_
      try simp only [nP, nN, nA, n0, nS, nG, List.getElem_cons_zero, List.getElem_cons_succ]
      cases d5 with
      | false =>
       with_reducible refine wpList_tail1 122 4 (.bool false) (by kernel_rfl) (by kernel_rfl) ?_
       intro a' ha hdf
       obtain rfl : R = false := by rw [HR.out]; simp
       refine hK _ _ ?_
       refine wp_ret ?_
       exact bodyPost_ret (v := .bool false) (by simp [results, Tryd.results18, ha]) hdf ⟨rfl, ee⟩
      | true =>
       refine wpList_v (.pointer (some ⟨w.heap.size, 23, none⟩)) (by kernel_rfl) (by kernel_rfl) ?_
       try simp only [nP, nN, nA, n0, nS, nG, List.getElem_cons_zero, List.getElem_cons_succ]
       refine wpList_load1 (.int .i64 a.g) ⟨w.heap.size, 23, none⟩ 3 _ _ (rowCell Za (23) rfl) (by kernel_rfl) rfl (by kernel_rfl) Tryd.underlying3 rfl ?_
       try simp only [nP, nN, nA, n0, nS, nG, List.getElem_cons_zero, List.getElem_cons_succ]
       refine wpList_v (.pointer (some ⟨w.heap.size + 1, 23, none⟩)) (by kernel_rfl) (by kernel_rfl) ?_
       try simp only [nP, nN, nA, n0, nS, nG, List.getElem_cons_zero, List.getElem_cons_succ]
       refine wpList_load1 (.int .i64 b.g) ⟨w.heap.size + 1, 23, none⟩ 3 _ _ (rowCell Zb (23) rfl) (by kernel_rfl) rfl (by kernel_rfl) Tryd.underlying3 rfl ?_
       try simp only [nP, nN, nA, n0, nS, nG, List.getElem_cons_zero, List.getElem_cons_succ]
       refine wpList_bin (.bool d6) (.int .i64 a.g) (.int .i64 b.g) _ _ _ _ _ (by rw [← h6]; kernel_rfl) (by kernel_rfl) rfl (by kernel_rfl) (by kernel_rfl) (by kernel_rfl) ?_
       try simp only [nP, nN, nA, n0, nS, nG, List.getElem_cons_zero, List.getElem_cons_succ]
       refine wpList_v (.bool d6) (by kernel_rfl) (by kernel_rfl) ?_
       try simp only [nP, nN, nA, n0, nS, nG, List.getElem_cons_zero, List.getElem_cons_succ]
       refine wpList_v (.bool d6) (by kernel_rfl) (by kernel_rfl) ?_
       try simp only [nP, nN, nA, n0, nS, nG, List.getElem_cons_zero, List.getElem_cons_succ]
       cases d6 with
       | false =>
        with_reducible refine wpList_tail1 122 4 (.bool false) (by kernel_rfl) (by kernel_rfl) ?_
        intro a' ha hdf
        obtain rfl : R = false := by rw [HR.out]; simp
        refine hK _ _ ?_
        refine wp_ret ?_
        exact bodyPost_ret (v := .bool false) (by simp [results, Tryd.results18, ha]) hdf ⟨rfl, ee⟩
       | true =>
        refine wpList_v (.pointer (some ⟨w.heap.size, 24, none⟩)) (by kernel_rfl) (by kernel_rfl) ?_
        try simp only [nP, nN, nA, n0, nS, nG, List.getElem_cons_zero, List.getElem_cons_succ]
        refine wpList_load1 (.int .u64 (a.st : Int)) ⟨w.heap.size, 24, none⟩ 31 _ _ (rowCell Za (24) rfl) (by kernel_rfl) rfl (by kernel_rfl) Tryd.underlying31 rfl ?_
        try simp only [nP, nN, nA, n0, nS, nG, List.getElem_cons_zero, List.getElem_cons_succ]
        refine wpList_v (.pointer (some ⟨w.heap.size + 1, 24, none⟩)) (by kernel_rfl) (by kernel_rfl) ?_
        try simp only [nP, nN, nA, n0, nS, nG, List.getElem_cons_zero, List.getElem_cons_succ]
        refine wpList_load1 (.int .u64 (b.st : Int)) ⟨w.heap.size + 1, 24, none⟩ 31 _ _ (rowCell Zb (24) rfl) (by kernel_rfl) rfl (by kernel_rfl) Tryd.underlying31 rfl ?_
        try simp only [nP, nN, nA, n0, nS, nG, List.getElem_cons_zero, List.getElem_cons_succ]
        refine wpList_bin (.bool d7) (.int .u64 (a.st : Int)) (.int .u64 (b.st : Int)) _ _ _ _ _ (by rw [← h7]; kernel_rfl) (by kernel_rfl) rfl (by kernel_rfl) (by kernel_rfl) (by kernel_rfl) ?_
        try simp only [nP, nN, nA, n0, nS, nG, List.getElem_cons_zero, List.getElem_cons_succ]
        refine wpList_v (.bool d7) (by kernel_rfl) (by kernel_rfl) ?_
        try simp only [nP, nN, nA, n0, nS, nG, List.getElem_cons_zero, List.getElem_cons_succ]
        refine wpList_v (.bool d7) (by kernel_rfl) (by kernel_rfl) ?_
        try simp only [nP, nN, nA, n0, nS, nG, List.getElem_cons_zero, List.getElem_cons_succ]
        cases d7 with
        | false =>
         with_reducible refine wpList_tail1 122 4 (.bool false) (by kernel_rfl) (by kernel_rfl) ?_
         intro a' ha hdf
         obtain rfl : R = false := by rw [HR.out]; simp
         refine hK _ _ ?_
         refine wp_ret ?_
         exact bodyPost_ret (v := .bool false) (by simp [results, Tryd.results18, ha]) hdf ⟨rfl, ee⟩
        | true =>
         refine wpList_v (.pointer (some ⟨w.heap.size, 25, none⟩)) (by kernel_rfl) (by kernel_rfl) ?_
         try simp only [nP, nN, nA, n0, nS, nG, List.getElem_cons_zero, List.getElem_cons_succ]
         refine wpList_load1 (.bool a.ye) ⟨w.heap.size, 25, none⟩ 4 _ _ (rowCell Za (25) rfl) (by kernel_rfl) rfl (by kernel_rfl) Tryd.underlying4 rfl ?_
         try simp only [nP, nN, nA, n0, nS, nG, List.getElem_cons_zero, List.getElem_cons_succ]
         refine wpList_v (.pointer (some ⟨w.heap.size + 1, 25, none⟩)) (by kernel_rfl) (by kernel_rfl) ?_
         try simp only [nP, nN, nA, n0, nS, nG, List.getElem_cons_zero, List.getElem_cons_succ]
         refine wpList_load1 (.bool b.ye) ⟨w.heap.size + 1, 25, none⟩ 4 _ _ (rowCell Zb (25) rfl) (by kernel_rfl) rfl (by kernel_rfl) Tryd.underlying4 rfl ?_
         try simp only [nP, nN, nA, n0, nS, nG, List.getElem_cons_zero, List.getElem_cons_succ]
         refine wpList_bin (.bool d8) (.bool a.ye) (.bool b.ye) _ _ _ _ _ (by rw [← h8]; kernel_rfl) (by kernel_rfl) rfl (by kernel_rfl) (by kernel_rfl) (by kernel_rfl) ?_
         try simp only [nP, nN, nA, n0, nS, nG, List.getElem_cons_zero, List.getElem_cons_succ]
         refine wpList_v (.bool d8) (by kernel_rfl) (by kernel_rfl) ?_
         try simp only [nP, nN, nA, n0, nS, nG, List.getElem_cons_zero, List.getElem_cons_succ]
         refine wpList_v (.bool d8) (by kernel_rfl) (by kernel_rfl) ?_
         try simp only [nP, nN, nA, n0, nS, nG, List.getElem_cons_zero, List.getElem_cons_succ]
         cases d8 with
         | false =>
          with_reducible refine wpList_tail1 122 4 (.bool false) (by kernel_rfl) (by kernel_rfl) ?_
          intro a' ha hdf
          obtain rfl : R = false := by rw [HR.out]; simp
          refine hK _ _ ?_
          refine wp_ret ?_
          exact bodyPost_ret (v := .bool false) (by simp [results, Tryd.results18, ha]) hdf ⟨rfl, ee⟩
         | true =>
          refine wpList_v (.pointer (some ⟨w.heap.size, 26, none⟩)) (by kernel_rfl) (by kernel_rfl) ?_
          try simp only [nP, nN, nA, n0, nS, nG, List.getElem_cons_zero, List.getElem_cons_succ]
          refine wpList_load1 (.int .i64 a.nu) ⟨w.heap.size, 26, none⟩ 3 _ _ (rowCell Za (26) rfl) (by kernel_rfl) rfl (by kernel_rfl) Tryd.underlying3 rfl ?_
          try simp only [nP, nN, nA, n0, nS, nG, List.getElem_cons_zero, List.getElem_cons_succ]
          refine wpList_v (.pointer (some ⟨w.heap.size + 1, 26, none⟩)) (by kernel_rfl) (by kernel_rfl) ?_
          try simp only [nP, nN, nA, n0, nS, nG, List.getElem_cons_zero, List.getElem_cons_succ]
          refine wpList_load1 (.int .i64 b.nu) ⟨w.heap.size + 1, 26, none⟩ 3 _ _ (rowCell Zb (26) rfl) (by kernel_rfl) rfl (by kernel_rfl) Tryd.underlying3 rfl ?_
          try simp only [nP, nN, nA, n0, nS, nG, List.getElem_cons_zero, List.getElem_cons_succ]
          refine wpList_bin (.bool d9) (.int .i64 a.nu) (.int .i64 b.nu) _ _ _ _ _ (by rw [← h9]; kernel_rfl) (by kernel_rfl) rfl (by kernel_rfl) (by kernel_rfl) (by kernel_rfl) ?_
          try simp only [nP, nN, nA, n0, nS, nG, List.getElem_cons_zero, List.getElem_cons_succ]
          refine wpList_v (.bool d9) (by kernel_rfl) (by kernel_rfl) ?_
          try simp only [nP, nN, nA, n0, nS, nG, List.getElem_cons_zero, List.getElem_cons_succ]
          refine wpList_v (.bool d9) (by kernel_rfl) (by kernel_rfl) ?_
          try simp only [nP, nN, nA, n0, nS, nG, List.getElem_cons_zero, List.getElem_cons_succ]
          cases d9 with
          | false =>
           with_reducible refine wpList_tail1 122 4 (.bool false) (by kernel_rfl) (by kernel_rfl) ?_
           intro a' ha hdf
           obtain rfl : R = false := by rw [HR.out]; simp
           refine hK _ _ ?_
           refine wp_ret ?_
           exact bodyPost_ret (v := .bool false) (by simp [results, Tryd.results18, ha]) hdf ⟨rfl, ee⟩
          | true =>
           refine wpList_v (.pointer (some ⟨w.heap.size, 27, none⟩)) (by kernel_rfl) (by kernel_rfl) ?_
           try simp only [nP, nN, nA, n0, nS, nG, List.getElem_cons_zero, List.getElem_cons_succ]
           refine wpList_load1 (.string a.ky) ⟨w.heap.size, 27, none⟩ 9 _ _ (rowCell Za (27) rfl) (by kernel_rfl) rfl (by kernel_rfl) Tryd.underlying9 rfl ?_
           try simp only [nP, nN, nA, n0, nS, nG, List.getElem_cons_zero, List.getElem_cons_succ]
           refine wpList_v (.pointer (some ⟨w.heap.size + 1, 27, none⟩)) (by kernel_rfl) (by kernel_rfl) ?_
           try simp only [nP, nN, nA, n0, nS, nG, List.getElem_cons_zero, List.getElem_cons_succ]
           refine wpList_load1 (.string b.ky) ⟨w.heap.size + 1, 27, none⟩ 9 _ _ (rowCell Zb (27) rfl) (by kernel_rfl) rfl (by kernel_rfl) Tryd.underlying9 rfl ?_
           try simp only [nP, nN, nA, n0, nS, nG, List.getElem_cons_zero, List.getElem_cons_succ]
           refine wpList_bin (.bool d10) (.string a.ky) (.string b.ky) _ _ _ _ _ (by rw [← h10]; kernel_rfl) (by kernel_rfl) rfl (by kernel_rfl) (by kernel_rfl) (by kernel_rfl) ?_
           try simp only [nP, nN, nA, n0, nS, nG, List.getElem_cons_zero, List.getElem_cons_succ]
           refine wpList_v (.bool d10) (by kernel_rfl) (by kernel_rfl) ?_
           try simp only [nP, nN, nA, n0, nS, nG, List.getElem_cons_zero, List.getElem_cons_succ]
           refine wpList_v (.bool d10) (by kernel_rfl) (by kernel_rfl) ?_
           try simp only [nP, nN, nA, n0, nS, nG, List.getElem_cons_zero, List.getElem_cons_succ]
           cases d10 with
           | false =>
            with_reducible refine wpList_tail1 122 4 (.bool false) (by kernel_rfl) (by kernel_rfl) ?_
            intro a' ha hdf
            obtain rfl : R = false := by rw [HR.out]; simp
            refine hK _ _ ?_
            refine wp_ret ?_
            exact bodyPost_ret (v := .bool false) (by simp [results, Tryd.results18, ha]) hdf ⟨rfl, ee⟩
           | true =>
            refine wpList_v (.pointer (some ⟨w.heap.size, 28, none⟩)) (by kernel_rfl) (by kernel_rfl) ?_
            try simp only [nP, nN, nA, n0, nS, nG, List.getElem_cons_zero, List.getElem_cons_succ]
            refine wpList_load1 (.int .u64 (a.ve : Int)) ⟨w.heap.size, 28, none⟩ 31 _ _ (rowCell Za (28) rfl) (by kernel_rfl) rfl (by kernel_rfl) Tryd.underlying31 rfl ?_
            try simp only [nP, nN, nA, n0, nS, nG, List.getElem_cons_zero, List.getElem_cons_succ]
            refine wpList_v (.pointer (some ⟨w.heap.size + 1, 28, none⟩)) (by kernel_rfl) (by kernel_rfl) ?_
            try simp only [nP, nN, nA, n0, nS, nG, List.getElem_cons_zero, List.getElem_cons_succ]
            refine wpList_load1 (.int .u64 (b.ve : Int)) ⟨w.heap.size + 1, 28, none⟩ 31 _ _ (rowCell Zb (28) rfl) (by kernel_rfl) rfl (by kernel_rfl) Tryd.underlying31 rfl ?_
            try simp only [nP, nN, nA, n0, nS, nG, List.getElem_cons_zero, List.getElem_cons_succ]
            refine wpList_bin (.bool d11) (.int .u64 (a.ve : Int)) (.int .u64 (b.ve : Int)) _ _ _ _ _ (by rw [← h11]; kernel_rfl) (by kernel_rfl) rfl (by kernel_rfl) (by kernel_rfl) (by kernel_rfl) ?_
            try simp only [nP, nN, nA, n0, nS, nG, List.getElem_cons_zero, List.getElem_cons_succ]
            refine wpList_v (.bool d11) (by kernel_rfl) (by kernel_rfl) ?_
            try simp only [nP, nN, nA, n0, nS, nG, List.getElem_cons_zero, List.getElem_cons_succ]
            refine wpList_v (.bool d11) (by kernel_rfl) (by kernel_rfl) ?_
            try simp only [nP, nN, nA, n0, nS, nG, List.getElem_cons_zero, List.getElem_cons_succ]
            cases d11 with
            | false =>
             with_reducible refine wpList_tail1 122 4 (.bool false) (by kernel_rfl) (by kernel_rfl) ?_
             intro a' ha hdf
             obtain rfl : R = false := by rw [HR.out]; simp
             refine hK _ _ ?_
             refine wp_ret ?_
             exact bodyPost_ret (v := .bool false) (by simp [results, Tryd.results18, ha]) hdf ⟨rfl, ee⟩
            | true =>
             refine wpList_v (.pointer (some ⟨w.heap.size, 29, none⟩)) (by kernel_rfl) (by kernel_rfl) ?_
             try simp only [nP, nN, nA, n0, nS, nG, List.getElem_cons_zero, List.getElem_cons_succ]
             refine wpList_load_g (by kernel_rfl) 35 _ rfl (w.heap.size) (29) (by kernel_rfl) ([.int .i64 a.vk, .int .u64 (a.vb : Int), .string a.vt]) _ (rowMid Za (29) (Ms.px a)) Tryd.underlying35 rfl sizeVal ?_
             try simp only [nP, nN, nA, n0, nS, nG, List.getElem_cons_zero, List.getElem_cons_succ]
             refine wpList_v (.pointer (some ⟨w.heap.size + 1, 29, none⟩)) (by kernel_rfl) (by kernel_rfl) ?_
             try simp only [nP, nN, nA, n0, nS, nG, List.getElem_cons_zero, List.getElem_cons_succ]
             refine wpList_load_g (by kernel_rfl) 35 _ rfl (w.heap.size + 1) (29) (by kernel_rfl) ([.int .i64 b.vk, .int .u64 (b.vb : Int), .string b.vt]) _ (rowMid Zb (29) (Ms.px b)) Tryd.underlying35 rfl sizeVal ?_
             try simp only [nP, nN, nA, n0, nS, nG, List.getElem_cons_zero, List.getElem_cons_succ]
             refine wpList_bin (.bool d12) (.agg #[.int .i64 a.vk, .int .u64 (a.vb : Int), .string a.vt]) (.agg #[.int .i64 b.vk, .int .u64 (b.vb : Int), .string b.vt]) _ _ _ _ _ (hI4 _) (by kernel_rfl) rfl (by kernel_rfl) (by kernel_rfl) (by kernel_rfl) ?_
             try simp only [nP, nN, nA, n0, nS, nG, List.getElem_cons_zero, List.getElem_cons_succ]
             refine wpList_v (.bool d12) (by kernel_rfl) (by kernel_rfl) ?_
             try simp only [nP, nN, nA, n0, nS, nG, List.getElem_cons_zero, List.getElem_cons_succ]
             refine wpList_v (.bool d12) (by kernel_rfl) (by kernel_rfl) ?_
             try simp only [nP, nN, nA, n0, nS, nG, List.getElem_cons_zero, List.getElem_cons_succ]
             cases d12 with
             | false =>
              with_reducible refine wpList_tail1 122 4 (.bool false) (by kernel_rfl) (by kernel_rfl) ?_
              intro a' ha hdf
              obtain rfl : R = false := by rw [HR.out]; simp
              refine hK _ _ ?_
              refine wp_ret ?_
              exact bodyPost_ret (v := .bool false) (by simp [results, Tryd.results18, ha]) hdf ⟨rfl, ee⟩
             | true =>
              refine wpList_v (.pointer (some ⟨w.heap.size, 32, none⟩)) (by kernel_rfl) (by kernel_rfl) ?_
              try simp only [nP, nN, nA, n0, nS, nG, List.getElem_cons_zero, List.getElem_cons_succ]
              refine wpList_load1 (.int .i64 a.er) ⟨w.heap.size, 32, none⟩ 36 _ _ (rowCell Za (32) rfl) (by kernel_rfl) rfl (by kernel_rfl) Tryd.underlying36 rfl ?_
              try simp only [nP, nN, nA, n0, nS, nG, List.getElem_cons_zero, List.getElem_cons_succ]
              refine wpList_v (.pointer (some ⟨w.heap.size + 1, 32, none⟩)) (by kernel_rfl) (by kernel_rfl) ?_
              try simp only [nP, nN, nA, n0, nS, nG, List.getElem_cons_zero, List.getElem_cons_succ]
              refine wpList_load1 (.int .i64 b.er) ⟨w.heap.size + 1, 32, none⟩ 36 _ _ (rowCell Zb (32) rfl) (by kernel_rfl) rfl (by kernel_rfl) Tryd.underlying36 rfl ?_
              try simp only [nP, nN, nA, n0, nS, nG, List.getElem_cons_zero, List.getElem_cons_succ]
              refine wpList_bin (.bool d13) (.int .i64 a.er) (.int .i64 b.er) _ _ _ _ _ (by rw [← h13]; kernel_rfl) (by kernel_rfl) rfl (by kernel_rfl) (by kernel_rfl) (by kernel_rfl) ?_
              try simp only [nP, nN, nA, n0, nS, nG, List.getElem_cons_zero, List.getElem_cons_succ]
              refine wpList_v (.bool d13) (by kernel_rfl) (by kernel_rfl) ?_
              try simp only [nP, nN, nA, n0, nS, nG, List.getElem_cons_zero, List.getElem_cons_succ]
              refine wpList_v (.bool d13) (by kernel_rfl) (by kernel_rfl) ?_
              try simp only [nP, nN, nA, n0, nS, nG, List.getElem_cons_zero, List.getElem_cons_succ]
              cases d13 with
              | false =>
               with_reducible refine wpList_tail1 122 4 (.bool false) (by kernel_rfl) (by kernel_rfl) ?_
               intro a' ha hdf
               obtain rfl : R = false := by rw [HR.out]; simp
               refine hK _ _ ?_
               refine wp_ret ?_
               exact bodyPost_ret (v := .bool false) (by simp [results, Tryd.results18, ha]) hdf ⟨rfl, ee⟩
              | true =>
               refine wpList_v (.pointer (some ⟨w.heap.size, 7, none⟩)) (by kernel_rfl) (by kernel_rfl) ?_
               try simp only [nP, nN, nA, n0, nS, nG, List.getElem_cons_zero, List.getElem_cons_succ]
               refine wpList_load_g (by kernel_rfl) 33 _ rfl (w.heap.size) (7) (by kernel_rfl) (a.c.cells) _ (rowMid Za (7) (Ms.pc a)) Tryd.underlying33 rfl sizeCm ?_
               try simp only [nP, nN, nA, n0, nS, nG, List.getElem_cons_zero, List.getElem_cons_succ]
               refine wpList_v (.pointer (some ⟨w.heap.size + 1, 7, none⟩)) (by kernel_rfl) (by kernel_rfl) ?_
               try simp only [nP, nN, nA, n0, nS, nG, List.getElem_cons_zero, List.getElem_cons_succ]
               refine wpList_load_g (by kernel_rfl) 33 _ rfl (w.heap.size + 1) (7) (by kernel_rfl) (b.c.cells) _ (rowMid Zb (7) (Ms.pc b)) Tryd.underlying33 rfl sizeCm ?_
               try simp only [nP, nN, nA, n0, nS, nG, List.getElem_cons_zero, List.getElem_cons_succ]
               refine wpList_fcall 56 #[.agg (a.c.cells).toArray, .agg (b.c.cells).toArray] (HC.out w0 ee) (by kernel_rfl) (by kernel_rfl) ?_
               rintro e z1 ⟨rfl, t⟩
               refine ⟨_, rfl, ?_⟩
               have Za := hpB Za t
               have Zb := hpB Zb t
               have ee := ee.trans (t.mono ee.size)
               clear t
               try simp only [nP, nN, nA, n0, nS, nG, List.getElem_cons_zero, List.getElem_cons_succ]
               refine wpList_v (.bool d14) (by kernel_rfl) (by kernel_rfl) ?_
               try simp only [nP, nN, nA, n0, nS, nG, List.getElem_cons_zero, List.getElem_cons_succ]
               refine wpList_v (.bool d14) (by kernel_rfl) (by kernel_rfl) ?_
               try simp only [nP, nN, nA, n0, nS, nG, List.getElem_cons_zero, List.getElem_cons_succ]
               cases d14 with
               | false =>
                with_reducible refine wpList_tail1 122 4 (.bool false) (by kernel_rfl) (by kernel_rfl) ?_
                intro a' ha hdf
                obtain rfl : R = false := by rw [HR.out]; simp
                refine hK _ _ ?_
                refine wp_ret ?_
                exact bodyPost_ret (v := .bool false) (by simp [results, Tryd.results18, ha]) hdf ⟨rfl, ee⟩
               | true =>
                refine wpList_v (.pointer (some ⟨w.heap.size, 17, none⟩)) (by kernel_rfl) (by kernel_rfl) ?_
                try simp only [nP, nN, nA, n0, nS, nG, List.getElem_cons_zero, List.getElem_cons_succ]
                refine wpList_load_g (by kernel_rfl) 30 _ rfl (w.heap.size) (17) (by kernel_rfl) (a.t.cells) _ (rowMid Za (17) (Ms.pt a)) Tryd.underlying30 rfl sizeTn ?_
                try simp only [nP, nN, nA, n0, nS, nG, List.getElem_cons_zero, List.getElem_cons_succ]
                refine wpList_v (.pointer (some ⟨w.heap.size + 1, 17, none⟩)) (by kernel_rfl) (by kernel_rfl) ?_
                try simp only [nP, nN, nA, n0, nS, nG, List.getElem_cons_zero, List.getElem_cons_succ]
                refine wpList_load_g (by kernel_rfl) 30 _ rfl (w.heap.size + 1) (17) (by kernel_rfl) (b.t.cells) _ (rowMid Zb (17) (Ms.pt b)) Tryd.underlying30 rfl sizeTn ?_
                try simp only [nP, nN, nA, n0, nS, nG, List.getElem_cons_zero, List.getElem_cons_succ]
                refine wpList_fcall 57 #[.agg (a.t.cells).toArray, .agg (b.t.cells).toArray] (HTT.out z1 ee) (by kernel_rfl) (by kernel_rfl) ?_
                rintro e z2 ⟨rfl, t⟩
                refine ⟨_, rfl, ?_⟩
                have Za := hpB Za t
                have Zb := hpB Zb t
                have ee := ee.trans (t.mono ee.size)
                clear t
                try simp only [nP, nN, nA, n0, nS, nG, List.getElem_cons_zero, List.getElem_cons_succ]
                refine wpList_v (.bool d15) (by kernel_rfl) (by kernel_rfl) ?_
                try simp only [nP, nN, nA, n0, nS, nG, List.getElem_cons_zero, List.getElem_cons_succ]
                refine wpList_v (.bool d15) (by kernel_rfl) (by kernel_rfl) ?_
                try simp only [nP, nN, nA, n0, nS, nG, List.getElem_cons_zero, List.getElem_cons_succ]
                cases d15 with
                | false =>
                 with_reducible refine wpList_tail1 122 4 (.bool false) (by kernel_rfl) (by kernel_rfl) ?_
                 intro a' ha hdf
                 obtain rfl : R = false := by rw [HR.out]; simp
                 refine hK _ _ ?_
                 refine wp_ret ?_
                 exact bodyPost_ret (v := .bool false) (by simp [results, Tryd.results18, ha]) hdf ⟨rfl, ee⟩
                | true =>
                 refine wpList_v (.pointer (some ⟨w.heap.size, 33, none⟩)) (by kernel_rfl) (by kernel_rfl) ?_
                 try simp only [nP, nN, nA, n0, nS, nG, List.getElem_cons_zero, List.getElem_cons_succ]
                 refine wpList_load1 (.slice a.D a.dt.length a.dc) ⟨w.heap.size, 33, none⟩ 37 _ _ (rowCell Za (33) rfl) (by kernel_rfl) rfl (by kernel_rfl) Tryd.underlying37 rfl ?_
                 try simp only [nP, nN, nA, n0, nS, nG, List.getElem_cons_zero, List.getElem_cons_succ]
                 refine wpList_v (.pointer (some ⟨w.heap.size + 1, 33, none⟩)) (by kernel_rfl) (by kernel_rfl) ?_
                 try simp only [nP, nN, nA, n0, nS, nG, List.getElem_cons_zero, List.getElem_cons_succ]
                 refine wpList_load1 (.slice b.D b.dt.length b.dc) ⟨w.heap.size + 1, 33, none⟩ 37 _ _ (rowCell Zb (33) rfl) (by kernel_rfl) rfl (by kernel_rfl) Tryd.underlying37 rfl ?_
                 try simp only [nP, nN, nA, n0, nS, nG, List.getElem_cons_zero, List.getElem_cons_succ]
                 refine wpList_fcall 58 #[.slice a.D a.dt.length a.dc, .slice b.D b.dt.length b.dc] (HD.out z2 ee) (by kernel_rfl) (by kernel_rfl) ?_
                 rintro e z3 ⟨rfl, hw_⟩
                 refine ⟨_, rfl, ?_⟩
                 rw [← hw_]
                 clear hw_ z3
                 try simp only [nP, nN, nA, n0, nS, nG, List.getElem_cons_zero, List.getElem_cons_succ]
                 with_reducible refine wpList_tail1 122 4 (.bool d16) (by kernel_rfl) (by kernel_rfl) ?_
                 intro a' ha hdf
                 obtain rfl : R = d16 := by rw [HR.out]; simp
                 refine hK _ _ ?_
                 refine wp_ret ?_
                 exact bodyPost_ret (v := .bool R) (by simp [results, Tryd.results18, ha]) hdf ⟨rfl, ee⟩
end Go.Proofs.YtjofjpmhokjhnaaDoor
