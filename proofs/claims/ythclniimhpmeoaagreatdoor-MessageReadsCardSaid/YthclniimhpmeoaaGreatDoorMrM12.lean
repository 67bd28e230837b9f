import Derived.Test.YthclniimhpmeoaaGreatDoorMrM11
set_option maxHeartbeats 12800000
set_option linter.unusedSimpArgs false
set_option linter.unusedVariables false
namespace Go.Proofs.YthclniimhpmeoaaGreatDoor
set_option maxRecDepth 20000
open Go.RowKit T
namespace T
def fieldsOf (k : Int) : List UInt8 := if k = 1 ∨ k = 3 then [66] else if k = 2 then [66, 83, 72] else if k = 4 then [66, 83, 67] else if k = 5 then [66, 83] else if k = 6 then [83, 67] else if k = 7 then [83] else if k = 8 then [84] else if k = 9 then [73, 71, 80] else if k = 10 then [73, 71, 89] else if k = 11 then [73, 71, 80, 89] else if k = 12 then [80, 78, 75] else if k = 13 then [71, 80, 78, 75, 86, 88, 69] else if k = 14 then [78] else if k = 15 then [83, 68] else []
def Ms.put (m o : Ms) (l : Nat) : Ms := if l = 66 then { o with br := m.br, bn := m.bn } else if l = 83 then { o with sl := m.sl } else if l = 72 then (if m.ha then { o with ha := m.ha, vr := m.vr, vn := m.vn, c := m.c } else { o with ha := m.ha }) else if l = 67 then { o with c := m.c } else if l = 84 then { o with t := m.t } else if l = 73 then { o with ii := m.ii, ij := m.ij } else if l = 71 then { o with g := m.g } else if l = 80 then { o with st := m.st } else if l = 89 then { o with ye := m.ye } else if l = 78 then { o with nu := m.nu } else if l = 75 then { o with ky := m.ky } else if l = 86 then { o with ve := m.ve } else if l = 88 then { o with vk := m.vk, vb := m.vb, vt := m.vt } else if l = 69 then { o with er := m.er } else if l = 68 then { o with dt := m.dt, D := m.D, dc := m.dc } else o
def Ms.only (m : Ms) : Ms := (fieldsOf m.kd).foldl (fun o l => m.put o l.toNat) (Ms.zero m.kd)
end T
theorem fieldsOf_ascii (k : Int) : ∀ l ∈ fieldsOf k, l.toNat < 128 := by
 by_cases k1 : k = 1
 ·subst k1; decide
 by_cases k3 : k = 3
 ·subst k3; decide
 by_cases k2 : k = 2
 ·subst k2; decide
 by_cases k4 : k = 4
 ·subst k4; decide
 by_cases k5 : k = 5
 ·subst k5; decide
 by_cases k6 : k = 6
 ·subst k6; decide
 by_cases k7 : k = 7
 ·subst k7; decide
 by_cases k8 : k = 8
 ·subst k8; decide
 by_cases k9 : k = 9
 ·subst k9; decide
 by_cases k10 : k = 10
 ·subst k10; decide
 by_cases k11 : k = 11
 ·subst k11; decide
 by_cases k12 : k = 12
 ·subst k12; decide
 by_cases k13 : k = 13
 ·subst k13; decide
 by_cases k14 : k = 14
 ·subst k14; decide
 by_cases k15 : k = 15
 ·subst k15; decide
 rw [show fieldsOf k = [] from by unfold fieldsOf; simp only [k1, k3, k2, k4, k5, k6, k7, k8, k9, k10, k11, k12, k13, k14, k15, if_false, or_self]];intro l hl;cases hl
theorem fields_any (k : Int) (w : World) : Calls Tryz.prog 68 #[.int .i64 k] w fun e w' => e = .returned (.string ⟨(fieldsOf k).toArray⟩) ∧ w = w' := by
 by_cases k1 : k = 1
 ·subst k1;rw [show fieldsOf 1 = [66] from by decide]
  go_enter Tryz.func68, Tryz.ntmps68
  go_wp2_with fail
  go_ret
  exact ⟨rfl, rfl⟩
 ·have e1 : (k == 1) = false := by simpa using k1
  by_cases k3 : k = 3
  ·subst k3;rw [show fieldsOf 3 = [66] from by decide]
   go_enter Tryz.func68, Tryz.ntmps68
   go_wp2_with fail
   go_ret
   exact ⟨rfl, rfl⟩
  ·have e3 : (k == 3) = false := by simpa using k3
   by_cases k2 : k = 2
   ·subst k2;rw [show fieldsOf 2 = [66, 83, 72] from by decide]
    go_enter Tryz.func68, Tryz.ntmps68
    go_wp2_with fail
    go_ret
    exact ⟨rfl, rfl⟩
   ·have e2 : (k == 2) = false := by simpa using k2
    by_cases k4 : k = 4
    ·subst k4;rw [show fieldsOf 4 = [66, 83, 67] from by decide]
     go_enter Tryz.func68, Tryz.ntmps68
     go_wp2_with fail
     go_ret
     exact ⟨rfl, rfl⟩
    ·have e4 : (k == 4) = false := by simpa using k4
     by_cases k5 : k = 5
     ·subst k5;rw [show fieldsOf 5 = [66, 83] from by decide]
      go_enter Tryz.func68, Tryz.ntmps68
      go_wp2_with fail
      go_ret
      exact ⟨rfl, rfl⟩
     ·have e5 : (k == 5) = false := by simpa using k5
      by_cases k6 : k = 6
      ·subst k6;rw [show fieldsOf 6 = [83, 67] from by decide]
       go_enter Tryz.func68, Tryz.ntmps68
       go_wp2_with fail
       go_ret
       exact ⟨rfl, rfl⟩
      ·have e6 : (k == 6) = false := by simpa using k6
       by_cases k7 : k = 7
       ·subst k7;rw [show fieldsOf 7 = [83] from by decide]
        go_enter Tryz.func68, Tryz.ntmps68
        go_wp2_with fail
        go_ret
        exact ⟨rfl, rfl⟩
       ·have e7 : (k == 7) = false := by simpa using k7
        by_cases k8 : k = 8
        ·subst k8;rw [show fieldsOf 8 = [84] from by decide]
         go_enter Tryz.func68, Tryz.ntmps68
         go_wp2_with fail
         go_ret
         exact ⟨rfl, rfl⟩
        ·have e8 : (k == 8) = false := by simpa using k8
         by_cases k9 : k = 9
         ·subst k9;rw [show fieldsOf 9 = [73, 71, 80] from by decide]
          go_enter Tryz.func68, Tryz.ntmps68
          go_wp2_with fail
          go_ret
          exact ⟨rfl, rfl⟩
         ·have e9 : (k == 9) = false := by simpa using k9
          by_cases k10 : k = 10
          ·subst k10;rw [show fieldsOf 10 = [73, 71, 89] from by decide]
           go_enter Tryz.func68, Tryz.ntmps68
           go_wp2_with fail
           go_ret
           exact ⟨rfl, rfl⟩
          ·have e10 : (k == 10) = false := by simpa using k10
           by_cases k11 : k = 11
           ·subst k11;rw [show fieldsOf 11 = [73, 71, 80, 89] from by decide]
            go_enter Tryz.func68, Tryz.ntmps68
            go_wp2_with fail
            go_ret
            exact ⟨rfl, rfl⟩
           ·have e11 : (k == 11) = false := by simpa using k11
            by_cases k12 : k = 12
            ·subst k12;rw [show fieldsOf 12 = [80, 78, 75] from by decide]
             go_enter Tryz.func68, Tryz.ntmps68
             go_wp2_with fail
             go_ret
             exact ⟨rfl, rfl⟩
            ·have e12 : (k == 12) = false := by simpa using k12
             by_cases k13 : k = 13
             ·subst k13;rw [show fieldsOf 13 = [71, 80, 78, 75, 86, 88, 69] from by decide]
              go_enter Tryz.func68, Tryz.ntmps68
              go_wp2_with fail
              go_ret
              exact ⟨rfl, rfl⟩
             ·have e13 : (k == 13) = false := by simpa using k13
              by_cases k14 : k = 14
              ·subst k14;rw [show fieldsOf 14 = [78] from by decide]
               go_enter Tryz.func68, Tryz.ntmps68
               go_wp2_with fail
               go_ret
               exact ⟨rfl, rfl⟩
              ·have e14 : (k == 14) = false := by simpa using k14
               by_cases k15 : k = 15
               ·subst k15;rw [show fieldsOf 15 = [83, 68] from by decide]
                go_enter Tryz.func68, Tryz.ntmps68
                go_wp2_with fail
                go_ret
                exact ⟨rfl, rfl⟩
               ·(have e15 : (k == 15) = false := by simpa using k15);rw [show fieldsOf k = [] from by unfold fieldsOf; simp only [k1, k3, k2, k4, k5, k6, k7, k8, k9, k10, k11, k12, k13, k14, k15, if_false, or_self]];clear k1 k3 k2 k4 k5 k6 k7 k8 k9 k10 k11 k12 k13 k14 k15
                go_enter Tryz.func68, Tryz.ntmps68
                go_wp2_with fail
                go_ret
                exact ⟨rfl, rfl⟩
theorem ogBuild9 {P : Program} {ops : Array Oper} {rest : List Oper} {o : Oper} {a : Act} {w : World} {Q : Exit → Act → World → Prop} (hg : o.guard = none) (t : TypeId) (parts : Array (Nat × Operand)) (ho : o.op = .build t parts) (vs : List (Nat × Value)) (cells : Array Value) (hv : (parts.map fun (i, x) => (i, a.eval x)).toList = vs)
 (hf : P.built t vs = some cells) (h : wpList P ops Q rest (a.put o.dst (.agg cells)) w) : wpList P ops Q (o :: rest) a w :=
 wpList_build hg t parts ho (by rw [hv, hf]; rfl) (by rw [hv, hf]; exact h)
theorem foldPut (m : Ms) (l : List UInt8) (z : Ms) (i : Nat) (h : i < l.length) : (l.take (i + 1)).foldl (fun o c => m.put o c.toNat) z = m.put ((l.take i).foldl (fun o c => m.put o c.toNat) z) (l[i]).toNat := by
 rw [List.take_succ_eq_append_getElem h, List.foldl_append]; rfl
theorem Ms.built (k : Int) : Tryz.prog.built 79 [(0, .int .i64 k)] = some (Ms.zero k).cells.toArray := by kernel_rfl
theorem putH (m o : Ms) (hb : m.ha = true) : m.put o 72 = { o with ha := m.ha, vr := m.vr, vn := m.vn, c := m.c } := by unfold Ms.put; simp [hb]
theorem putHn (m o : Ms) (hb : m.ha = false) : m.put o 72 = { o with ha := m.ha } := by unfold Ms.put; simp [hb]
theorem only_any (m : Ms) (w : World) : Calls Tryz.prog 105 #[.agg m.cells.toArray] w fun e w' => e = .returned (.agg m.only.cells.toArray) ∧ Below w.heap.size w w' := by
 obtain ⟨fs, hfs⟩ : ∃ fs, fs = fieldsOf m.kd := ⟨_, rfl⟩;(have HASC : Hid (∀ l ∈ fs, l.toNat < 128) := by rw [hfs]; exact fieldsOf_ascii _);have HFL := Lib.hid (fun z => fields_any m.kd z);rw [← hfs] at HFL;(have HON : Hid (m.only = fs.foldl (fun o l => m.put o l.toNat) (Ms.zero m.kd)) := by rw [hfs]; rfl);generalize m.only = on at HON ⊢;clear hfs;obtain ⟨w0, hw0⟩ : ∃ w0, w0 = (w.alloc (.cells m.cells.toArray 79)).alloc (.cells (Ms.zero 0).cells.toArray 79) := ⟨_, rfl⟩;(have ee : Below w.heap.size w w0 := by rw [hw0]; exact ((Below.refl _ _).alloc (Nat.le_refl _) _).alloc (by simp) _);(have Zm : w0.heap[w.heap.size]? = some (.cells m.cells.toArray 79) := by rw [hw0]; exact hpA (hpN _ _ rfl) _);(have Zr : w0.heap[w.heap.size + 1]? = some (.cells (Ms.zero 0).cells.toArray 79) := by rw [hw0]; exact hpN _ _ (by simp))
 go_enter Tryz.func105, Tryz.ntmps105
 go_upto_region 1 with fail
 change Code.wp _ _ _ _ ((w.alloc (.cells m.cells.toArray 79)).alloc (.cells (Ms.zero 0).cells.toArray 79));rw [← hw0];clear hw0;have c0 := rowCell Zm 0 (v := .int .i64 m.kd) rfl;refine wp_region_lit ?_;(iterate 6 go_step);refine ogBuild9 rfl 79 #[(0, .tmp 7)] rfl [(0, .int .i64 m.kd)] ((Ms.zero m.kd).cells).toArray ?_ ?_ ?_
 ·simp only [List.map_toArray, List.map_cons, List.map_nil]; rfl
 ·exact Ms.built m.kd
 (iterate 3 go_step);have s2_ := ee.size;have lZm := (Array.getElem?_eq_some_iff.1 Zm).1;have lZr := (Array.getElem?_eq_some_iff.1 Zr).1;have sz_ := ee.size;have Zm := hpA Zm (.cells #[.int .i64 0, .int .u32 0, .int .i64 0, .int .i64 0, .bool false, .int .u32 0, .int .i64 0, .int .i64 0, .int .i64 0, .int .i64 0, .slice none 0 0, .slice none 0 0, .int .i64 0, .int .i64 0, .int .i64 0, .int .u64 0, .bool false, .int .i64 0, .int .i64 0, .slice none 0 0, .slice none 0 0, .int .i64 0, .int .i64 0, .int .i64 0, .int .u64 0, .bool false, .int .i64 0, .string ⟨#[]⟩, .int .u64 0, .int .i64 0, .int .u64 0, .string ⟨#[]⟩, .int .i64 0, .slice none 0 0] 79);have Zr := hpA Zr (.cells #[.int .i64 0, .int .u32 0, .int .i64 0, .int .i64 0, .bool false, .int .u32 0, .int .i64 0, .int .i64 0, .int .i64 0, .int .i64 0, .slice none 0 0, .slice none 0 0, .int .i64 0, .int .i64 0, .int .i64 0, .int .u64 0, .bool false, .int .i64 0, .int .i64 0, .slice none 0 0, .slice none 0 0, .int .i64 0, .int .i64 0, .int .i64 0, .int .u64 0, .bool false, .int .i64 0, .string ⟨#[]⟩, .int .u64 0, .int .i64 0, .int .u64 0, .string ⟨#[]⟩, .int .i64 0, .slice none 0 0] 79);have ee := ee.alloc ee.size (.cells #[.int .i64 0, .int .u32 0, .int .i64 0, .int .i64 0, .bool false, .int .u32 0, .int .i64 0, .int .i64 0, .int .i64 0, .int .i64 0, .slice none 0 0, .slice none 0 0, .int .i64 0, .int .i64 0, .int .i64 0, .int .u64 0, .bool false, .int .i64 0, .int .i64 0, .slice none 0 0, .slice none 0 0, .int .i64 0, .int .i64 0, .int .i64 0, .int .u64 0, .bool false, .int .i64 0, .string ⟨#[]⟩, .int .u64 0, .int .i64 0, .int .u64 0, .string ⟨#[]⟩, .int .i64 0, .slice none 0 0] 79);have Zo := hpN w0 (.cells #[.int .i64 0, .int .u32 0, .int .i64 0, .int .i64 0, .bool false, .int .u32 0, .int .i64 0, .int .i64 0, .int .i64 0, .int .i64 0, .slice none 0 0, .slice none 0 0, .int .i64 0, .int .i64 0, .int .i64 0, .int .u64 0, .bool false, .int .i64 0, .int .i64 0, .slice none 0 0, .slice none 0 0, .int .i64 0, .int .i64 0, .int .i64 0, .int .u64 0, .bool false, .int .i64 0, .string ⟨#[]⟩, .int .u64 0, .int .i64 0, .int .u64 0, .string ⟨#[]⟩, .int .i64 0, .slice none 0 0] 79) rfl;generalize w0.alloc (.cells #[.int .i64 0, .int .u32 0, .int .i64 0, .int .i64 0, .bool false, .int .u32 0, .int .i64 0, .int .i64 0, .int .i64 0, .int .i64 0, .slice none 0 0, .slice none 0 0, .int .i64 0, .int .i64 0, .int .i64 0, .int .u64 0, .bool false, .int .i64 0, .int .i64 0, .slice none 0 0, .slice none 0 0, .int .i64 0, .int .i64 0, .int .i64 0, .int .u64 0, .bool false, .int .i64 0, .string ⟨#[]⟩, .int .u64 0, .int .i64 0, .int .u64 0, .string ⟨#[]⟩, .int .i64 0, .slice none 0 0] 79) = z1 at Zm Zr Zo ee ⊢;have Zo : z1.heap[w0.heap.size]? = some (.cells (Ms.zero 0).cells.toArray 79) := Zo;obtain ⟨go, hg_go⟩ : ∃ g_, g_ = w0.heap.size := ⟨_, rfl⟩;(have hgo : w.heap.size + 1 < go := by omega);rw [← hg_go] at Zo ⊢;clear hg_go
 iterate 27 (first | with_reducible refine isStore (ty := 79) rfl ?_ | go_step)
 refine wpList_store_row rfl 79 _ _ rfl (go) ((Ms.zero m.kd).cells).toArray rfl rfl 79 _ Zo sizeMs (by rfl) (Ms.one _) ?_;have N_ := setRow_heap z1 (go) _ ((Ms.zero m.kd).cells).toArray _ _ Zo;have ee := belowSet (cs := ((Ms.zero m.kd).cells).toArray) ee Zo (by omega);have Zm := hpR Zm (g' := go) (by omega) ((Ms.zero m.kd).cells).toArray;have Zr := hpR Zr (g' := go) (by omega) ((Ms.zero m.kd).cells).toArray;clear Zo;have Zo := N_;clear N_;generalize z1.setRow (go) ((Ms.zero m.kd).cells).toArray = z2 at Zm Zr Zo ee ⊢
 go_upto_region 2 with fail
 have c0 := rowCell Zm 0 (v := .int .i64 m.kd) rfl;refine wp_region_lit ?_
 go_wp2_with fail
 refine (HFL.out z2).mono ?_;rintro e z3 ⟨rfl, hw_⟩;rw [← hw_];clear hw_ z3
 try dsimp only
 rename_i hK
 refine hK _ _ ?_;clear hK;clear c0 HFL;(iterate 3 go_step);have lZo := (Array.getElem?_eq_some_iff.1 Zo).1;have s2_ := ee.size;have Zm := hpA Zm (.stringIter ⟨fs.toArray⟩ 0);have Zr := hpA Zr (.stringIter ⟨fs.toArray⟩ 0);have Zo := hpA Zo (.stringIter ⟨fs.toArray⟩ 0);have ee := ee.alloc ee.size (.stringIter ⟨fs.toArray⟩ 0);have Zi := hpN z2 (.stringIter ⟨fs.toArray⟩ 0) rfl
 try change _ (z2.alloc (.stringIter ⟨fs.toArray⟩ 0))
 obtain ⟨gi, hgi⟩ : ∃ g, g = z2.heap.size := ⟨_, rfl⟩;(have hgoi : go < gi := by omega);rw [← hgi] at Zi ⊢;clear hgi;generalize hz9 : (z2.iter ⟨fs.toArray⟩ 0) = z4 at ⊢
 replace hz9 : z2.alloc (.stringIter ⟨fs.toArray⟩ 0) = z4 := hz9
 rw [hz9] at Zm Zr Zo Zi ee;clear hz9
 go_wp2_with fail
 go_loopw [5] (fun u wr => ∃ (i : Nat) (o : Ms), i ≤ fs.length ∧ Hid (o = (fs.take i).foldl (fun o l => m.put o l.toNat) (Ms.zero m.kd)) ∧ Hid (wr.heap[w.heap.size]? = some (.cells m.cells.toArray 79 (0, 0))) ∧ Hid (wr.heap[w.heap.size + 1]? = some (.cells (Ms.zero 0).cells.toArray 79 (0, 0))) ∧ Hid (wr.heap[go]? = some (.cells o.cells.toArray 79 (0, 0))) ∧ Hid (wr.heap[gi]? = some (.stringIter ⟨fs.toArray⟩ i)) ∧ Hid (Below w.heap.size w wr)) (fun _ wr => fs.length - wr.iterPos gi)
 case atStart => exact ⟨0, Ms.zero m.kd, Nat.zero_le _, rfl, Zm, Zr, Zo, Zi, ee⟩
 case round =>
  clear Zm Zr Zo Zi ee;obtain ⟨i, o, hi, HO, Zm, Zr, Zo, Zi, ee⟩ := hrel;have Zm := Zm.out;have Zr := Zr.out;have Zo := Zo.out;have Zi := Zi.out;have ee := ee.out
  by_cases hlt : i < fs.length
  ·(have hsz : i < (⟨fs.toArray⟩ : ByteArray).size := by show i < fs.toArray.size; simpa using hlt);(have hgt : ((⟨fs.toArray⟩ : ByteArray)[i]'hsz) = fs[i] := by show fs.toArray[i] = _; simp);obtain ⟨c, hc⟩ : ∃ c : Nat, c = (fs[i]).toNat := ⟨_, rfl⟩;have hnx := fun ty => Lib.run_next_ascii_at (P := Tryz.prog) wr gi ⟨fs.toArray⟩ i ty Zi hsz (by rw [hgt]; exact HASC.out _ (List.getElem_mem hlt));rw [hgt, ← hc] at hnx;(have HST : Hid ((fs.take (i + 1)).foldl (fun o l => m.put o l.toNat) (Ms.zero m.kd) = m.put o c) := by show _ = _; rw [foldPut m fs _ i hlt, ← HO.out, hc]);(have HIT : Hid (wr.iterPos gi = i) := by show wr.iterPos gi = i; unfold World.iterPos; rw [Zi]);clear hc hgt hsz
   go_upto_region 4 with fail
   clear hnx;have lZi := (Array.getElem?_eq_some_iff.1 Zi).1;have Zm := (Lib.iterAt_other wr gi w.heap.size ⟨fs.toArray⟩ (i + 1) (by omega)).trans Zm;have Zr := (Lib.iterAt_other wr gi (w.heap.size + 1) ⟨fs.toArray⟩ (i + 1) (by omega)).trans Zr;have Zo := (Lib.iterAt_other wr gi go ⟨fs.toArray⟩ (i + 1) (by omega)).trans Zo;have Zi := Lib.iterAt_heap wr gi ⟨fs.toArray⟩ i (i + 1) Zi;have ee := Lib.below_iterAt ee (k := gi) (by omega) ⟨fs.toArray⟩ (i + 1);generalize wr.iterAt gi ⟨fs.toArray⟩ (i + 1) = y0 at Zm Zr Zo Zi ee ⊢
   by_cases l66 : c = 66
   ·subst l66
    go_upto_region 7 with fail
    refine wp_region_lit ?_
    iterate 27 (first | with_reducible refine isLoad (ty := 24) rfl ?_ | go_step)
    refine wpList_load_mid rfl 24 _ rfl (w.heap.size) (1) rfl ([.int .u32 (m.br : Int), .int .i64 m.bn]) _ (rowMid Zm (1) (Ms.pb m)) Tryz.underlying24 rfl sizeBal ?_
    iterate 40 (first | with_reducible refine isStore (ty := 24) rfl ?_ | go_step)
    refine wpList_store_mid rfl 24 _ _ rfl (go) (1) ([.int .u32 (m.br : Int), .int .i64 m.bn]).toArray rfl rfl (rowThere Zo (by simp [Ms.cells_len, Cm.cells, Tn.cells])) sizeBal (by simp [Value.oneCell']) ?_;have Zi := hpCo (g' := go) (by omega) ([.int .u32 (m.br : Int), .int .i64 m.bn]) (1) y0 Zi;have N_ : (y0.setCells (go) (1) ([.int .u32 (m.br : Int), .int .i64 m.bn])).heap[go]? = some (.cells (({ o with br := m.br, bn := m.bn } : Ms).cells).toArray 79) := hpC ([.int .u32 (m.br : Int), .int .i64 m.bn]) (1) _ y0 Zo;have ee := belowC (g := go) (by omega) ([.int .u32 (m.br : Int), .int .i64 m.bn]) (1) y0 ee;have Zm := hpCo (g' := go) (by omega) ([.int .u32 (m.br : Int), .int .i64 m.bn]) (1) y0 Zm;have Zr := hpCo (g' := go) (by omega) ([.int .u32 (m.br : Int), .int .i64 m.bn]) (1) y0 Zr;clear Zo;have Zo := N_;clear N_;change wpList _ _ _ _ _ (y0.setCells (go) (1) ([.int .u32 (m.br : Int), .int .i64 m.bn]));generalize y0.setCells (go) (1) ([.int .u32 (m.br : Int), .int .i64 m.bn]) = y1 at Zm Zr Zo ee Zi ⊢;(have HI2 : Hid (y1.iterPos gi = i + 1) := by show y1.iterPos gi = _; unfold World.iterPos; rw [Zi])
    go_wp2_with fail
    try simp only [Act.put]
    go_roundw
    case rel => exact ⟨i + 1, { o with br := m.br, bn := m.bn }, hlt, by show _ = _; rw [HST.out]; rfl, Zm, Zr, Zo, Zi, ee⟩
    case measure => rw [HI2.out, HIT.out]; omega
   ·have n66 : ((c : Int) == 66) = false := by simp; omega
    by_cases l83 : c = 83
    ·subst l83
     go_upto_region 9 with fail
     refine wp_region_lit ?_;have cm := rowCell Zm 3 (v := .int .i64 m.sl) rfl
     iterate 40 (first | with_reducible refine isStore (ty := 3) rfl ?_ | go_step)
     have f_ : y0.frozen? ⟨go, 3, none⟩ = false := freeAt Zo (3);have c_ := rowCell Zo (3) rfl;(iterate 3 go_step);clear f_ c_;have Zi := hpCo (g' := go) (by omega) ([.int .i64 m.sl]) (3) y0 Zi;have N_ : (y0.setCells (go) (3) ([.int .i64 m.sl])).heap[go]? = some (.cells (({ o with sl := m.sl } : Ms).cells).toArray 79) := hpC ([.int .i64 m.sl]) (3) _ y0 Zo;have ee := belowC (g := go) (by omega) ([.int .i64 m.sl]) (3) y0 ee;have Zm := hpCo (g' := go) (by omega) ([.int .i64 m.sl]) (3) y0 Zm;have Zr := hpCo (g' := go) (by omega) ([.int .i64 m.sl]) (3) y0 Zr;clear Zo;have Zo := N_;clear N_;change wpList _ _ _ _ _ (y0.setCells (go) (3) ([.int .i64 m.sl]));generalize y0.setCells (go) (3) ([.int .i64 m.sl]) = y1 at Zm Zr Zo ee Zi ⊢;clear cm;(have HI2 : Hid (y1.iterPos gi = i + 1) := by show y1.iterPos gi = _; unfold World.iterPos; rw [Zi])
     go_wp2_with fail
     try simp only [Act.put]
     go_roundw
     case rel => exact ⟨i + 1, { o with sl := m.sl }, hlt, by show _ = _; rw [HST.out]; rfl, Zm, Zr, Zo, Zi, ee⟩
     case measure => rw [HI2.out, HIT.out]; omega
    ·have n83 : ((c : Int) == 83) = false := by simp; omega
     by_cases l72 : c = 72
     ·subst l72;have cm := rowCell Zm 4 (v := .bool m.ha) rfl
      go_upto_region 11 with fail
      refine wp_region_lit ?_
      iterate 40 (first | with_reducible refine isStore (ty := 4) rfl ?_ | go_step)
      have f_ : y0.frozen? ⟨go, 4, none⟩ = false := freeAt Zo (4);have c_ := rowCell Zo (4) rfl;(iterate 3 go_step);clear f_ c_;have Zi := hpCo (g' := go) (by omega) ([.bool m.ha]) (4) y0 Zi;have N_ : (y0.setCells (go) (4) ([.bool m.ha])).heap[go]? = some (.cells (({ o with ha := m.ha } : Ms).cells).toArray 79) := hpC ([.bool m.ha]) (4) _ y0 Zo;have ee := belowC (g := go) (by omega) ([.bool m.ha]) (4) y0 ee;have Zm := hpCo (g' := go) (by omega) ([.bool m.ha]) (4) y0 Zm;have Zr := hpCo (g' := go) (by omega) ([.bool m.ha]) (4) y0 Zr;clear Zo;have Zo := N_;clear N_;change wpList _ _ _ _ _ (y0.setCells (go) (4) ([.bool m.ha]));generalize y0.setCells (go) (4) ([.bool m.ha]) = y1 at Zm Zr Zo ee Zi ⊢;clear cm;have cm := rowCell Zm 4 (v := .bool m.ha) rfl
      cases hb : m.ha with
      | false =>
        rw [hb] at cm;(have HI2 : Hid (y1.iterPos gi = i + 1) := by show y1.iterPos gi = _; unfold World.iterPos; rw [Zi])
        go_wp2_with fail
        try simp only [Act.put]
        go_roundw
        case rel => exact ⟨i + 1, { o with ha := m.ha }, hlt, by show _ = _; rw [HST.out]; exact (putHn m o hb).symm, Zm, Zr, Zo, Zi, ee⟩
        case measure => rw [HI2.out, HIT.out]; omega
      | true =>
        rw [hb] at cm
        go_upto_region 13 with fail
        clear cm;have Zi : y1.drew.heap[gi]? = some (.stringIter ⟨fs.toArray⟩ (i + 1)) := Zi;have Zm : y1.drew.heap[w.heap.size]? = some (.cells m.cells.toArray 79) := Zm;have Zr : y1.drew.heap[w.heap.size + 1]? = some (.cells (Ms.zero 0).cells.toArray 79) := Zr;have Zo : y1.drew.heap[go]? = some (.cells (({ o with ha := m.ha } : Ms).cells).toArray 79) := Zo;have ee := belowDrewS ee;refine wp_region_held_drew (S := fun z' => z'.rangeAt w.heap.size (5) ([.int .u32 (m.vr : Int), .int .i64 m.vn]) ∧ z'.rangeAt w.heap.size (7) m.c.cells) (by kernel_rfl) ⟨(rowMid Zm (5) (Ms.pv m)), (rowMid Zm (7) (Ms.pc m))⟩ (fun hH => ?_);clear hH;generalize y1.drew = y2 at Zm Zr Zo ee Zi ⊢;refine zU 0 (.pointer (some ⟨w.heap.size, 5, none⟩)) rfl ⟨(rowMid Zm (5) (Ms.pv m)), (rowMid Zm (7) (Ms.pc m))⟩ ?_;(try simp only [Act.put, zL]);refine zT 1 (.agg ([.int .u32 (m.vr : Int), .int .i64 m.vn]).toArray) rfl (yieldsIf_load_mid (by rfl) 24 _ rfl (w.heap.size) (5) rfl ([.int .u32 (m.vr : Int), .int .i64 m.vn]) _ (fun _ h => h.1) Tryz.underlying24 rfl sizeBal) ⟨(rowMid Zm (5) (Ms.pv m)), (rowMid Zm (7) (Ms.pc m))⟩ ?_;(try simp only [Act.put, zL]);refine zU 2 (.pointer (some ⟨w.heap.size, 7, none⟩)) rfl ⟨(rowMid Zm (5) (Ms.pv m)), (rowMid Zm (7) (Ms.pc m))⟩ ?_;(try simp only [Act.put, zL]);refine zT 3 (.agg (m.c.cells).toArray) rfl (yieldsIf_load_mid (by rfl) 33 _ rfl (w.heap.size) (7) rfl (m.c.cells) _ (fun _ h => h.2) Tryz.underlying33 rfl sizeCm) ⟨(rowMid Zm (5) (Ms.pv m)), (rowMid Zm (7) (Ms.pc m))⟩ ?_;(try simp only [Act.put, zL]);refine zU 4 (.pointer (some ⟨go, 5, none⟩)) rfl ⟨(rowMid Zm (5) (Ms.pv m)), (rowMid Zm (7) (Ms.pc m))⟩ ?_;(try simp only [Act.put, zL]);refine wrd 5 fun K hK => ?_;rw [if_pos (by rfl)];have Zi := hpCo (g' := go) (by omega) ([.int .u32 (m.vr : Int), .int .i64 m.vn]) (5) y2 Zi;refine wp_store_mid 24 _ _ rfl (go) (5) ([.int .u32 (m.vr : Int), .int .i64 m.vn]).toArray rfl rfl (rowThere Zo (by simp [Ms.cells_len, Cm.cells, Tn.cells])) sizeBal (by simp [Value.oneCell']) ?_;have N_ : (y2.setCells (go) (5) ([.int .u32 (m.vr : Int), .int .i64 m.vn])).heap[go]? = some (.cells (({ o with ha := m.ha, vr := m.vr, vn := m.vn } : Ms).cells).toArray 79) := hpC ([.int .u32 (m.vr : Int), .int .i64 m.vn]) (5) _ y2 Zo;have ee := belowC (g := go) (by omega) ([.int .u32 (m.vr : Int), .int .i64 m.vn]) (5) y2 ee;have Zm := hpCo (g' := go) (by omega) ([.int .u32 (m.vr : Int), .int .i64 m.vn]) (5) y2 Zm;have Zr := hpCo (g' := go) (by omega) ([.int .u32 (m.vr : Int), .int .i64 m.vn]) (5) y2 Zr;clear Zo;have Zo := N_;clear N_;change K _ (y2.setCells (go) (5) ([.int .u32 (m.vr : Int), .int .i64 m.vn]));generalize y2.setCells (go) (5) ([.int .u32 (m.vr : Int), .int .i64 m.vn]) = y3 at Zm Zr Zo ee Zi ⊢;refine hK.out _ _ ⟨(rowMid Zm (5) (Ms.pv m)), (rowMid Zm (7) (Ms.pc m))⟩ (fun hH => ?_);clear hK K hH;(try simp only [Act.put, zL]);refine zU 6 (.pointer (some ⟨go, 7, none⟩)) rfl ⟨(rowMid Zm (5) (Ms.pv m)), (rowMid Zm (7) (Ms.pc m))⟩ ?_;(try simp only [Act.put, zL]);refine wrd 7 fun K hK => ?_;rw [if_pos (by rfl)];have Zi := hpCo (g' := go) (by omega) (m.c.cells) (7) y3 Zi;refine wp_store_mid 33 _ _ rfl (go) (7) (m.c.cells).toArray rfl rfl (rowThere Zo (by simp [Ms.cells_len, Cm.cells, Tn.cells])) sizeCm (Cm.one _) ?_;have N_ : (y3.setCells (go) (7) (m.c.cells)).heap[go]? = some (.cells (({ o with ha := m.ha, vr := m.vr, vn := m.vn, c := m.c } : Ms).cells).toArray 79) := hpC (m.c.cells) (7) _ y3 Zo;have ee := belowC (g := go) (by omega) (m.c.cells) (7) y3 ee;have Zm := hpCo (g' := go) (by omega) (m.c.cells) (7) y3 Zm;have Zr := hpCo (g' := go) (by omega) (m.c.cells) (7) y3 Zr;clear Zo;have Zo := N_;clear N_;change K _ (y3.setCells (go) (7) (m.c.cells));generalize y3.setCells (go) (7) (m.c.cells) = y4 at Zm Zr Zo ee Zi ⊢;refine hK.out _ _ ⟨(rowMid Zm (5) (Ms.pv m)), (rowMid Zm (7) (Ms.pc m))⟩ (fun hH => ?_);clear hK K hH;(try simp only [Act.put, zL]);refine wpAnyH_done (by kernel_rfl) ?_ _;(have HI2 : Hid (y4.iterPos gi = i + 1) := by show y4.iterPos gi = _; unfold World.iterPos; rw [Zi])
        go_wp2_with fail
        try simp only [Act.put]
        go_roundw
        case rel => exact ⟨i + 1, { o with ha := m.ha, vr := m.vr, vn := m.vn, c := m.c }, hlt, by show _ = _; rw [HST.out]; exact (putH m o hb).symm, Zm, Zr, Zo, Zi, ee⟩
        case measure => rw [HI2.out, HIT.out]; omega
     ·have n72 : ((c : Int) == 72) = false := by simp; omega
      by_cases l67 : c = 67
      ·subst l67
       go_upto_region 15 with fail
       refine wp_region_lit ?_
       iterate 27 (first | with_reducible refine isLoad (ty := 33) rfl ?_ | go_step)
       refine wpList_load_mid rfl 33 _ rfl (w.heap.size) (7) rfl (m.c.cells) _ (rowMid Zm (7) (Ms.pc m)) Tryz.underlying33 rfl sizeCm ?_
       iterate 40 (first | with_reducible refine isStore (ty := 33) rfl ?_ | go_step)
       refine wpList_store_mid rfl 33 _ _ rfl (go) (7) (m.c.cells).toArray rfl rfl (rowThere Zo (by simp [Ms.cells_len, Cm.cells, Tn.cells])) sizeCm (Cm.one _) ?_;have Zi := hpCo (g' := go) (by omega) (m.c.cells) (7) y0 Zi;have N_ : (y0.setCells (go) (7) (m.c.cells)).heap[go]? = some (.cells (({ o with c := m.c } : Ms).cells).toArray 79) := hpC (m.c.cells) (7) _ y0 Zo;have ee := belowC (g := go) (by omega) (m.c.cells) (7) y0 ee;have Zm := hpCo (g' := go) (by omega) (m.c.cells) (7) y0 Zm;have Zr := hpCo (g' := go) (by omega) (m.c.cells) (7) y0 Zr;clear Zo;have Zo := N_;clear N_;change wpList _ _ _ _ _ (y0.setCells (go) (7) (m.c.cells));generalize y0.setCells (go) (7) (m.c.cells) = y1 at Zm Zr Zo ee Zi ⊢;(have HI2 : Hid (y1.iterPos gi = i + 1) := by show y1.iterPos gi = _; unfold World.iterPos; rw [Zi])
       go_wp2_with fail
       try simp only [Act.put]
       go_roundw
       case rel => exact ⟨i + 1, { o with c := m.c }, hlt, by show _ = _; rw [HST.out]; rfl, Zm, Zr, Zo, Zi, ee⟩
       case measure => rw [HI2.out, HIT.out]; omega
      ·have n67 : ((c : Int) == 67) = false := by simp; omega
       by_cases l84 : c = 84
       ·subst l84
        go_upto_region 17 with fail
        refine wp_region_lit ?_
        iterate 27 (first | with_reducible refine isLoad (ty := 30) rfl ?_ | go_step)
        refine wpList_load_mid rfl 30 _ rfl (w.heap.size) (17) rfl (m.t.cells) _ (rowMid Zm (17) (Ms.pt m)) Tryz.underlying30 rfl sizeTn ?_
        iterate 40 (first | with_reducible refine isStore (ty := 30) rfl ?_ | go_step)
        refine wpList_store_mid rfl 30 _ _ rfl (go) (17) (m.t.cells).toArray rfl rfl (rowThere Zo (by simp [Ms.cells_len, Cm.cells, Tn.cells])) sizeTn (Tn.one _) ?_;have Zi := hpCo (g' := go) (by omega) (m.t.cells) (17) y0 Zi;have N_ : (y0.setCells (go) (17) (m.t.cells)).heap[go]? = some (.cells (({ o with t := m.t } : Ms).cells).toArray 79) := hpC (m.t.cells) (17) _ y0 Zo;have ee := belowC (g := go) (by omega) (m.t.cells) (17) y0 ee;have Zm := hpCo (g' := go) (by omega) (m.t.cells) (17) y0 Zm;have Zr := hpCo (g' := go) (by omega) (m.t.cells) (17) y0 Zr;clear Zo;have Zo := N_;clear N_;change wpList _ _ _ _ _ (y0.setCells (go) (17) (m.t.cells));generalize y0.setCells (go) (17) (m.t.cells) = y1 at Zm Zr Zo ee Zi ⊢;(have HI2 : Hid (y1.iterPos gi = i + 1) := by show y1.iterPos gi = _; unfold World.iterPos; rw [Zi])
        go_wp2_with fail
        try simp only [Act.put]
        go_roundw
        case rel => exact ⟨i + 1, { o with t := m.t }, hlt, by show _ = _; rw [HST.out]; rfl, Zm, Zr, Zo, Zi, ee⟩
        case measure => rw [HI2.out, HIT.out]; omega
       ·have n84 : ((c : Int) == 84) = false := by simp; omega
        by_cases l73 : c = 73
        ·subst l73
         go_upto_region 19 with fail
         refine wp_region_lit ?_
         iterate 27 (first | with_reducible refine isLoad (ty := 26) rfl ?_ | go_step)
         refine wpList_load_mid rfl 26 _ rfl (w.heap.size) (21) rfl ([.int .i64 m.ii, .int .i64 m.ij]) _ (rowMid Zm (21) (Ms.pi m)) Tryz.underlying26 rfl sizeId ?_
         iterate 40 (first | with_reducible refine isStore (ty := 26) rfl ?_ | go_step)
         refine wpList_store_mid rfl 26 _ _ rfl (go) (21) ([.int .i64 m.ii, .int .i64 m.ij]).toArray rfl rfl (rowThere Zo (by simp [Ms.cells_len, Cm.cells, Tn.cells])) sizeId (by simp [Value.oneCell']) ?_;have Zi := hpCo (g' := go) (by omega) ([.int .i64 m.ii, .int .i64 m.ij]) (21) y0 Zi;have N_ : (y0.setCells (go) (21) ([.int .i64 m.ii, .int .i64 m.ij])).heap[go]? = some (.cells (({ o with ii := m.ii, ij := m.ij } : Ms).cells).toArray 79) := hpC ([.int .i64 m.ii, .int .i64 m.ij]) (21) _ y0 Zo;have ee := belowC (g := go) (by omega) ([.int .i64 m.ii, .int .i64 m.ij]) (21) y0 ee;have Zm := hpCo (g' := go) (by omega) ([.int .i64 m.ii, .int .i64 m.ij]) (21) y0 Zm;have Zr := hpCo (g' := go) (by omega) ([.int .i64 m.ii, .int .i64 m.ij]) (21) y0 Zr;clear Zo;have Zo := N_;clear N_;change wpList _ _ _ _ _ (y0.setCells (go) (21) ([.int .i64 m.ii, .int .i64 m.ij]));generalize y0.setCells (go) (21) ([.int .i64 m.ii, .int .i64 m.ij]) = y1 at Zm Zr Zo ee Zi ⊢;(have HI2 : Hid (y1.iterPos gi = i + 1) := by show y1.iterPos gi = _; unfold World.iterPos; rw [Zi])
         go_wp2_with fail
         try simp only [Act.put]
         go_roundw
         case rel => exact ⟨i + 1, { o with ii := m.ii, ij := m.ij }, hlt, by show _ = _; rw [HST.out]; rfl, Zm, Zr, Zo, Zi, ee⟩
         case measure => rw [HI2.out, HIT.out]; omega
        ·have n73 : ((c : Int) == 73) = false := by simp; omega
         by_cases l71 : c = 71
         ·subst l71
          go_upto_region 21 with fail
          refine wp_region_lit ?_;have cm := rowCell Zm 23 (v := .int .i64 m.g) rfl
          iterate 40 (first | with_reducible refine isStore (ty := 3) rfl ?_ | go_step)
          have f_ : y0.frozen? ⟨go, 23, none⟩ = false := freeAt Zo (23);have c_ := rowCell Zo (23) rfl;(iterate 3 go_step);clear f_ c_;have Zi := hpCo (g' := go) (by omega) ([.int .i64 m.g]) (23) y0 Zi;have N_ : (y0.setCells (go) (23) ([.int .i64 m.g])).heap[go]? = some (.cells (({ o with g := m.g } : Ms).cells).toArray 79) := hpC ([.int .i64 m.g]) (23) _ y0 Zo;have ee := belowC (g := go) (by omega) ([.int .i64 m.g]) (23) y0 ee;have Zm := hpCo (g' := go) (by omega) ([.int .i64 m.g]) (23) y0 Zm;have Zr := hpCo (g' := go) (by omega) ([.int .i64 m.g]) (23) y0 Zr;clear Zo;have Zo := N_;clear N_;change wpList _ _ _ _ _ (y0.setCells (go) (23) ([.int .i64 m.g]));generalize y0.setCells (go) (23) ([.int .i64 m.g]) = y1 at Zm Zr Zo ee Zi ⊢;clear cm;(have HI2 : Hid (y1.iterPos gi = i + 1) := by show y1.iterPos gi = _; unfold World.iterPos; rw [Zi])
          go_wp2_with fail
          try simp only [Act.put]
          go_roundw
          case rel => exact ⟨i + 1, { o with g := m.g }, hlt, by show _ = _; rw [HST.out]; rfl, Zm, Zr, Zo, Zi, ee⟩
          case measure => rw [HI2.out, HIT.out]; omega
         ·have n71 : ((c : Int) == 71) = false := by simp; omega
          by_cases l80 : c = 80
          ·subst l80
           go_upto_region 23 with fail
           refine wp_region_lit ?_;have cm := rowCell Zm 24 (v := .int .u64 (m.st : Int)) rfl
           iterate 40 (first | with_reducible refine isStore (ty := 31) rfl ?_ | go_step)
           have f_ : y0.frozen? ⟨go, 24, none⟩ = false := freeAt Zo (24);have c_ := rowCell Zo (24) rfl;(iterate 3 go_step);clear f_ c_;have Zi := hpCo (g' := go) (by omega) ([.int .u64 (m.st : Int)]) (24) y0 Zi;have N_ : (y0.setCells (go) (24) ([.int .u64 (m.st : Int)])).heap[go]? = some (.cells (({ o with st := m.st } : Ms).cells).toArray 79) := hpC ([.int .u64 (m.st : Int)]) (24) _ y0 Zo;have ee := belowC (g := go) (by omega) ([.int .u64 (m.st : Int)]) (24) y0 ee;have Zm := hpCo (g' := go) (by omega) ([.int .u64 (m.st : Int)]) (24) y0 Zm;have Zr := hpCo (g' := go) (by omega) ([.int .u64 (m.st : Int)]) (24) y0 Zr;clear Zo;have Zo := N_;clear N_;change wpList _ _ _ _ _ (y0.setCells (go) (24) ([.int .u64 (m.st : Int)]));generalize y0.setCells (go) (24) ([.int .u64 (m.st : Int)]) = y1 at Zm Zr Zo ee Zi ⊢;clear cm;(have HI2 : Hid (y1.iterPos gi = i + 1) := by show y1.iterPos gi = _; unfold World.iterPos; rw [Zi])
           go_wp2_with fail
           try simp only [Act.put]
           go_roundw
           case rel => exact ⟨i + 1, { o with st := m.st }, hlt, by show _ = _; rw [HST.out]; rfl, Zm, Zr, Zo, Zi, ee⟩
           case measure => rw [HI2.out, HIT.out]; omega
          ·have n80 : ((c : Int) == 80) = false := by simp; omega
           by_cases l89 : c = 89
           ·subst l89
            go_upto_region 25 with fail
            refine wp_region_lit ?_;have cm := rowCell Zm 25 (v := .bool m.ye) rfl
            iterate 40 (first | with_reducible refine isStore (ty := 4) rfl ?_ | go_step)
            have f_ : y0.frozen? ⟨go, 25, none⟩ = false := freeAt Zo (25);have c_ := rowCell Zo (25) rfl;(iterate 3 go_step);clear f_ c_;have Zi := hpCo (g' := go) (by omega) ([.bool m.ye]) (25) y0 Zi;have N_ : (y0.setCells (go) (25) ([.bool m.ye])).heap[go]? = some (.cells (({ o with ye := m.ye } : Ms).cells).toArray 79) := hpC ([.bool m.ye]) (25) _ y0 Zo;have ee := belowC (g := go) (by omega) ([.bool m.ye]) (25) y0 ee;have Zm := hpCo (g' := go) (by omega) ([.bool m.ye]) (25) y0 Zm;have Zr := hpCo (g' := go) (by omega) ([.bool m.ye]) (25) y0 Zr;clear Zo;have Zo := N_;clear N_;change wpList _ _ _ _ _ (y0.setCells (go) (25) ([.bool m.ye]));generalize y0.setCells (go) (25) ([.bool m.ye]) = y1 at Zm Zr Zo ee Zi ⊢;clear cm;(have HI2 : Hid (y1.iterPos gi = i + 1) := by show y1.iterPos gi = _; unfold World.iterPos; rw [Zi])
            go_wp2_with fail
            try simp only [Act.put]
            go_roundw
            case rel => exact ⟨i + 1, { o with ye := m.ye }, hlt, by show _ = _; rw [HST.out]; rfl, Zm, Zr, Zo, Zi, ee⟩
            case measure => rw [HI2.out, HIT.out]; omega
           ·have n89 : ((c : Int) == 89) = false := by simp; omega
            by_cases l78 : c = 78
            ·subst l78
             go_upto_region 27 with fail
             refine wp_region_lit ?_;have cm := rowCell Zm 26 (v := .int .i64 m.nu) rfl
             iterate 40 (first | with_reducible refine isStore (ty := 3) rfl ?_ | go_step)
             have f_ : y0.frozen? ⟨go, 26, none⟩ = false := freeAt Zo (26);have c_ := rowCell Zo (26) rfl;(iterate 3 go_step);clear f_ c_;have Zi := hpCo (g' := go) (by omega) ([.int .i64 m.nu]) (26) y0 Zi;have N_ : (y0.setCells (go) (26) ([.int .i64 m.nu])).heap[go]? = some (.cells (({ o with nu := m.nu } : Ms).cells).toArray 79) := hpC ([.int .i64 m.nu]) (26) _ y0 Zo;have ee := belowC (g := go) (by omega) ([.int .i64 m.nu]) (26) y0 ee;have Zm := hpCo (g' := go) (by omega) ([.int .i64 m.nu]) (26) y0 Zm;have Zr := hpCo (g' := go) (by omega) ([.int .i64 m.nu]) (26) y0 Zr;clear Zo;have Zo := N_;clear N_;change wpList _ _ _ _ _ (y0.setCells (go) (26) ([.int .i64 m.nu]));generalize y0.setCells (go) (26) ([.int .i64 m.nu]) = y1 at Zm Zr Zo ee Zi ⊢;clear cm;(have HI2 : Hid (y1.iterPos gi = i + 1) := by show y1.iterPos gi = _; unfold World.iterPos; rw [Zi])
             go_wp2_with fail
             try simp only [Act.put]
             go_roundw
             case rel => exact ⟨i + 1, { o with nu := m.nu }, hlt, by show _ = _; rw [HST.out]; rfl, Zm, Zr, Zo, Zi, ee⟩
             case measure => rw [HI2.out, HIT.out]; omega
            ·have n78 : ((c : Int) == 78) = false := by simp; omega
             by_cases l75 : c = 75
             ·subst l75
              go_upto_region 29 with fail
              refine wp_region_lit ?_;have cm := rowCell Zm 27 (v := .string m.ky) rfl
              iterate 40 (first | with_reducible refine isStore (ty := 9) rfl ?_ | go_step)
              have f_ : y0.frozen? ⟨go, 27, none⟩ = false := freeAt Zo (27);have c_ := rowCell Zo (27) rfl;(iterate 3 go_step);clear f_ c_;have Zi := hpCo (g' := go) (by omega) ([.string m.ky]) (27) y0 Zi;have N_ : (y0.setCells (go) (27) ([.string m.ky])).heap[go]? = some (.cells (({ o with ky := m.ky } : Ms).cells).toArray 79) := hpC ([.string m.ky]) (27) _ y0 Zo;have ee := belowC (g := go) (by omega) ([.string m.ky]) (27) y0 ee;have Zm := hpCo (g' := go) (by omega) ([.string m.ky]) (27) y0 Zm;have Zr := hpCo (g' := go) (by omega) ([.string m.ky]) (27) y0 Zr;clear Zo;have Zo := N_;clear N_;change wpList _ _ _ _ _ (y0.setCells (go) (27) ([.string m.ky]));generalize y0.setCells (go) (27) ([.string m.ky]) = y1 at Zm Zr Zo ee Zi ⊢;clear cm;(have HI2 : Hid (y1.iterPos gi = i + 1) := by show y1.iterPos gi = _; unfold World.iterPos; rw [Zi])
              go_wp2_with fail
              try simp only [Act.put]
              go_roundw
              case rel => exact ⟨i + 1, { o with ky := m.ky }, hlt, by show _ = _; rw [HST.out]; rfl, Zm, Zr, Zo, Zi, ee⟩
              case measure => rw [HI2.out, HIT.out]; omega
             ·have n75 : ((c : Int) == 75) = false := by simp; omega
              by_cases l86 : c = 86
              ·subst l86
               go_upto_region 31 with fail
               refine wp_region_lit ?_;have cm := rowCell Zm 28 (v := .int .u64 (m.ve : Int)) rfl
               iterate 40 (first | with_reducible refine isStore (ty := 31) rfl ?_ | go_step)
               have f_ : y0.frozen? ⟨go, 28, none⟩ = false := freeAt Zo (28);have c_ := rowCell Zo (28) rfl;(iterate 3 go_step);clear f_ c_;have Zi := hpCo (g' := go) (by omega) ([.int .u64 (m.ve : Int)]) (28) y0 Zi;have N_ : (y0.setCells (go) (28) ([.int .u64 (m.ve : Int)])).heap[go]? = some (.cells (({ o with ve := m.ve } : Ms).cells).toArray 79) := hpC ([.int .u64 (m.ve : Int)]) (28) _ y0 Zo;have ee := belowC (g := go) (by omega) ([.int .u64 (m.ve : Int)]) (28) y0 ee;have Zm := hpCo (g' := go) (by omega) ([.int .u64 (m.ve : Int)]) (28) y0 Zm;have Zr := hpCo (g' := go) (by omega) ([.int .u64 (m.ve : Int)]) (28) y0 Zr;clear Zo;have Zo := N_;clear N_;change wpList _ _ _ _ _ (y0.setCells (go) (28) ([.int .u64 (m.ve : Int)]));generalize y0.setCells (go) (28) ([.int .u64 (m.ve : Int)]) = y1 at Zm Zr Zo ee Zi ⊢;clear cm;(have HI2 : Hid (y1.iterPos gi = i + 1) := by show y1.iterPos gi = _; unfold World.iterPos; rw [Zi])
               go_wp2_with fail
               try simp only [Act.put]
               go_roundw
               case rel => exact ⟨i + 1, { o with ve := m.ve }, hlt, by show _ = _; rw [HST.out]; rfl, Zm, Zr, Zo, Zi, ee⟩
               case measure => rw [HI2.out, HIT.out]; omega
              ·have n86 : ((c : Int) == 86) = false := by simp; omega
               by_cases l88 : c = 88
               ·subst l88
                go_upto_region 33 with fail
                refine wp_region_lit ?_
                iterate 27 (first | with_reducible refine isLoad (ty := 77) rfl ?_ | go_step)
                refine wpList_load_mid rfl 77 _ rfl (w.heap.size) (29) rfl ([.int .i64 m.vk, .int .u64 (m.vb : Int), .string m.vt]) _ (rowMid Zm (29) (Ms.px m)) Tryz.underlying77 rfl sizeVal ?_
                iterate 40 (first | with_reducible refine isStore (ty := 77) rfl ?_ | go_step)
                refine wpList_store_mid rfl 77 _ _ rfl (go) (29) ([.int .i64 m.vk, .int .u64 (m.vb : Int), .string m.vt]).toArray rfl rfl (rowThere Zo (by simp [Ms.cells_len, Cm.cells, Tn.cells])) sizeVal (by simp [Value.oneCell']) ?_;have Zi := hpCo (g' := go) (by omega) ([.int .i64 m.vk, .int .u64 (m.vb : Int), .string m.vt]) (29) y0 Zi;have N_ : (y0.setCells (go) (29) ([.int .i64 m.vk, .int .u64 (m.vb : Int), .string m.vt])).heap[go]? = some (.cells (({ o with vk := m.vk, vb := m.vb, vt := m.vt } : Ms).cells).toArray 79) := hpC ([.int .i64 m.vk, .int .u64 (m.vb : Int), .string m.vt]) (29) _ y0 Zo;have ee := belowC (g := go) (by omega) ([.int .i64 m.vk, .int .u64 (m.vb : Int), .string m.vt]) (29) y0 ee;have Zm := hpCo (g' := go) (by omega) ([.int .i64 m.vk, .int .u64 (m.vb : Int), .string m.vt]) (29) y0 Zm;have Zr := hpCo (g' := go) (by omega) ([.int .i64 m.vk, .int .u64 (m.vb : Int), .string m.vt]) (29) y0 Zr;clear Zo;have Zo := N_;clear N_;change wpList _ _ _ _ _ (y0.setCells (go) (29) ([.int .i64 m.vk, .int .u64 (m.vb : Int), .string m.vt]));generalize y0.setCells (go) (29) ([.int .i64 m.vk, .int .u64 (m.vb : Int), .string m.vt]) = y1 at Zm Zr Zo ee Zi ⊢;(have HI2 : Hid (y1.iterPos gi = i + 1) := by show y1.iterPos gi = _; unfold World.iterPos; rw [Zi])
                go_wp2_with fail
                try simp only [Act.put]
                go_roundw
                case rel => exact ⟨i + 1, { o with vk := m.vk, vb := m.vb, vt := m.vt }, hlt, by show _ = _; rw [HST.out]; rfl, Zm, Zr, Zo, Zi, ee⟩
                case measure => rw [HI2.out, HIT.out]; omega
               ·have n88 : ((c : Int) == 88) = false := by simp; omega
                by_cases l69 : c = 69
                ·subst l69
                 go_upto_region 35 with fail
                 refine wp_region_lit ?_;have cm := rowCell Zm 32 (v := .int .i64 m.er) rfl
                 iterate 40 (first | with_reducible refine isStore (ty := 40) rfl ?_ | go_step)
                 have f_ : y0.frozen? ⟨go, 32, none⟩ = false := freeAt Zo (32);have c_ := rowCell Zo (32) rfl;(iterate 3 go_step);clear f_ c_;have Zi := hpCo (g' := go) (by omega) ([.int .i64 m.er]) (32) y0 Zi;have N_ : (y0.setCells (go) (32) ([.int .i64 m.er])).heap[go]? = some (.cells (({ o with er := m.er } : Ms).cells).toArray 79) := hpC ([.int .i64 m.er]) (32) _ y0 Zo;have ee := belowC (g := go) (by omega) ([.int .i64 m.er]) (32) y0 ee;have Zm := hpCo (g' := go) (by omega) ([.int .i64 m.er]) (32) y0 Zm;have Zr := hpCo (g' := go) (by omega) ([.int .i64 m.er]) (32) y0 Zr;clear Zo;have Zo := N_;clear N_;change wpList _ _ _ _ _ (y0.setCells (go) (32) ([.int .i64 m.er]));generalize y0.setCells (go) (32) ([.int .i64 m.er]) = y1 at Zm Zr Zo ee Zi ⊢;clear cm;(have HI2 : Hid (y1.iterPos gi = i + 1) := by show y1.iterPos gi = _; unfold World.iterPos; rw [Zi])
                 go_wp2_with fail
                 try simp only [Act.put]
                 go_roundw
                 case rel => exact ⟨i + 1, { o with er := m.er }, hlt, by show _ = _; rw [HST.out]; rfl, Zm, Zr, Zo, Zi, ee⟩
                 case measure => rw [HI2.out, HIT.out]; omega
                ·have n69 : ((c : Int) == 69) = false := by simp; omega
                 by_cases l68 : c = 68
                 ·subst l68
                  go_upto_region 37 with fail
                  refine wp_region_lit ?_;have cm := rowCell Zm 33 (v := .slice m.D m.dt.length m.dc) rfl
                  iterate 40 (first | with_reducible refine isStore (ty := 34) rfl ?_ | go_step)
                  have f_ : y0.frozen? ⟨go, 33, none⟩ = false := freeAt Zo (33);have c_ := rowCell Zo (33) rfl;(iterate 3 go_step);clear f_ c_;have Zi := hpCo (g' := go) (by omega) ([.slice m.D m.dt.length m.dc]) (33) y0 Zi;have N_ : (y0.setCells (go) (33) ([.slice m.D m.dt.length m.dc])).heap[go]? = some (.cells (({ o with dt := m.dt, D := m.D, dc := m.dc } : Ms).cells).toArray 79) := hpC ([.slice m.D m.dt.length m.dc]) (33) _ y0 Zo;have ee := belowC (g := go) (by omega) ([.slice m.D m.dt.length m.dc]) (33) y0 ee;have Zm := hpCo (g' := go) (by omega) ([.slice m.D m.dt.length m.dc]) (33) y0 Zm;have Zr := hpCo (g' := go) (by omega) ([.slice m.D m.dt.length m.dc]) (33) y0 Zr;clear Zo;have Zo := N_;clear N_;change wpList _ _ _ _ _ (y0.setCells (go) (33) ([.slice m.D m.dt.length m.dc]));generalize y0.setCells (go) (33) ([.slice m.D m.dt.length m.dc]) = y1 at Zm Zr Zo ee Zi ⊢;clear cm;(have HI2 : Hid (y1.iterPos gi = i + 1) := by show y1.iterPos gi = _; unfold World.iterPos; rw [Zi])
                  go_wp2_with fail
                  try simp only [Act.put]
                  go_roundw
                  case rel => exact ⟨i + 1, { o with dt := m.dt, D := m.D, dc := m.dc }, hlt, by show _ = _; rw [HST.out]; rfl, Zm, Zr, Zo, Zi, ee⟩
                  case measure => rw [HI2.out, HIT.out]; omega
                 ·(have n68 : ((c : Int) == 68) = false := by simp; omega);(have HPN : Hid (m.put o c = o) := by show _ = _; unfold Ms.put; simp only [l66, l83, l72, l67, l84, l73, l71, l80, l89, l78, l75, l86, l88, l69, l68, if_false]);clear l66 l83 l72 l67 l84 l73 l71 l80 l89 l78 l75 l86 l88 l69 l68;(have HI2 : Hid (y0.iterPos gi = i + 1) := by show y0.iterPos gi = _; unfold World.iterPos; rw [Zi])
                  go_wp2_with fail
                  try simp only [Act.put]
                  go_roundw
                  case rel => exact ⟨i + 1, o, hlt, by show _ = _; rw [HST.out]; exact HPN.out.symm, Zm, Zr, Zo, Zi, ee⟩
                  case measure => rw [HI2.out, HIT.out]; omega
  ·(have hsz : ¬ i < (⟨fs.toArray⟩ : ByteArray).size := by show ¬ i < fs.toArray.size; simpa using hlt);have hnx := fun ty => Lib.run_next_end_at (P := Tryz.prog) wr gi ⟨fs.toArray⟩ i ty Zi hsz;(have HOO : Hid (on = o) := by show _ = _; rw [HON.out, HO.out, List.take_of_length_le (by omega)])
   go_upto_region 38 with fail
   clear hnx;refine wp_region_lit ?_
   iterate 27 (first | with_reducible refine isLoad (ty := 79) rfl ?_ | go_step)
   refine wpList_load_mid rfl 79 _ rfl (go) 0 rfl (o.cells) _ (rowAt Zo) Tryz.underlying79 rfl sizeMs ?_;clear Zi
   iterate 27 (first | with_reducible refine isStore (ty := 79) rfl ?_ | go_step)
   refine wpList_store_row rfl 79 _ _ rfl (w.heap.size + 1) (o.cells).toArray rfl rfl 79 _ Zr sizeMs (by rfl) (Ms.one _) ?_;have N_ := setRow_heap wr (w.heap.size + 1) _ (o.cells).toArray _ _ Zr;have ee := belowSet (cs := (o.cells).toArray) ee Zr (by omega);have Zm := hpR Zm (g' := w.heap.size + 1) (by omega) (o.cells).toArray;have Zo := hpR Zo (g' := w.heap.size + 1) (by omega) (o.cells).toArray;clear Zr;have Zr := N_;clear N_;generalize wr.setRow (w.heap.size + 1) (o.cells).toArray = y1 at Zm Zr Zo ee ⊢
   go_wp2_with fail
   refine bodyPost_ret (v := .agg o.cells.toArray) (res_c rfl rfl Zr Tryz.underlying79 rfl sizeMs) rfl ⟨by rw [HOO.out], ee⟩
end Go.Proofs.YthclniimhpmeoaaGreatDoor
