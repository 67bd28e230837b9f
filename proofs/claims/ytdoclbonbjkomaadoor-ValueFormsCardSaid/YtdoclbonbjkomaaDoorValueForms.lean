/- The walk of the law ValueForms. -/
import Derived.Test.YtdoclbonbjkomaaDoorRefComp
import Derived.Test.YtdoclbonbjkomaaDoorValArg
namespace Go.Proofs.YtdoclbonbjkomaaDoor
open Go.RowKit
set_option linter.unusedSimpArgs false
set_option linter.unusedVariables false
theorem ofDrewF {B : Nat} {w w' : World} (h : Below B w.drew w') : Below B w w' := ⟨h.os, h.tape, h.output, h.size, h.block⟩

section
variable (k : Int) (b : Nat) (t : ByteArray) (k' : Int) (b' : Nat) (t' : ByteArray) (s : ByteArray) (w : World)
set_option maxHeartbeats 1600000 in
theorem vf_long (h : 1000 < (t.size : Int) ∨ 1000 < (t'.size : Int) ∨ 1000 < (s.size : Int)) :
    Calls Tryd.prog 4 #[.agg #[.int .i64 k, .int .u64 b, .string t], .agg #[.int .i64 k', .int .u64 b', .string t'], .string s] w fun e w' => e = .returned (.bool true) ∧ Below w.heap.size w w' := by
  have c1 := Lib.hid (cell33 w (.int .i64 k) (.int .u64 b) (.string t) (.int .i64 k') (.int .u64 b') (.string t') 27)
  have g0 := ((Below.refl w.heap.size w).alloc (Nat.le_refl _) (.cells #[.int .i64 k, .int .u64 b, .string t] 27)).alloc (by simp) (.cells #[.int .i64 k', .int .u64 b', .string t'] 27)
  rcases (show (1000 < (t.size : Int)) ∨ (¬ 1000 < (t.size : Int) ∧ 1000 < (t'.size : Int)) ∨ (¬ 1000 < (t.size : Int) ∧ ¬ 1000 < (t'.size : Int) ∧ 1000 < (s.size : Int)) by omega) with h1 | ⟨h1, h2⟩ | ⟨h1, h2, h3⟩
  all_goals
    clear h
    go_enter Tryd.func4, Tryd.ntmps4
    go_wp2_with fail
    refine (v_awake _).mono ?_
    rintro e w1 ⟨rfl, b1⟩
    obtain ⟨a1, a2, a3, a4, a5, a6⟩ := c1.out
    have d3 := cellB b1 a3
    have d6 := cellB b1 a6
    clear a1 a2 a3 a4 a5 a6 c1
    go_wp2_with fail
    refine (v_awake _).mono ?_
    rintro e w2 ⟨rfl, b2⟩
    go_wp2_with fail
    go_ret
    have g1 := g0.trans (b1.mono g0.size)
    exact ⟨rfl, g1.trans (b2.mono g1.size)⟩
set_option maxRecDepth 20000 in
set_option maxHeartbeats 3200000 in
theorem vf_short (hT : Tabs w) (bb : b < 18446744073709551616) (bb' : b' < 18446744073709551616) (h1 : ¬ 1000 < (t.size : Int)) (h2 : ¬ 1000 < (t'.size : Int)) (h3 : ¬ 1000 < (s.size : Int)) :
    Calls Tryd.prog 4 #[.agg #[.int .i64 k, .int .u64 b, .string t], .agg #[.int .i64 k', .int .u64 b', .string t'], .string s] w fun e w' => e = .returned (.bool true) ∧ Below w.heap.size w w' := by
  have hs : s.size ≤ 9223372036854775807 := by omega
  have HT := Lib.hid hT
  have HF := Lib.hid (fun z (hz : Tabs z) => formed_any k b t z hz)
  have HG := Lib.hid (fun z => rformed_any k b bb t z)
  generalize V.formed k b t.data.toList = fo at HF HG
  have HK := Lib.hid (fun z => key_any s z hs)
  have HL := Lib.hid (fun z => rkey_any s z hs)
  generalize V.key s.data.toList = ke at HK HL
  have HC := Lib.hid (fun z (hz : Tabs z) => compare_any k b t k' b' t' z hz bb bb')
  have HD := Lib.hid (fun z => rcompare_any k b t k' b' t' z bb bb')
  generalize V.vcmp k b t.data.toList k' b' t'.data.toList = co at HC HD
  unfold V.val at HF HG HC HD
  clear hT bb bb' hs
  have c1 := Lib.hid (cell33 w (.int .i64 k) (.int .u64 b) (.string t) (.int .i64 k') (.int .u64 b') (.string t') 27)
  have g0 := ((Below.refl w.heap.size w).alloc (Nat.le_refl _) (.cells #[.int .i64 k, .int .u64 b, .string t] 27)).alloc (by simp) (.cells #[.int .i64 k', .int .u64 b', .string t'] 27)
  go_enter Tryd.func4, Tryd.ntmps4
  go_wp2_with fail
  refine (v_awake _).mono ?_
  rintro e w1 ⟨rfl, b1⟩
  obtain ⟨a1, a2, a3, a4, a5, a6⟩ := c1.out
  have d3 := cellB b1 a3
  have d6 := cellB b1 a6
  have kk := And.intro (cellB b1 a1) (And.intro (cellB b1 a2) (And.intro (cellB b1 a3) (And.intro (cellB b1 a4) (And.intro (cellB b1 a5) (cellB b1 a6)))))
  have bz := g0.trans (b1.mono g0.size)
  have HKK := Lib.hid kk
  clear a1 a2 a3 a4 a5 a6 c1 g0 b1 kk
  go_wp2_with fail
  clear d3 d6
  have kk := HKK.out
  have tk0 : True := trivial
  have tk1 : True := trivial
  go_region_held3 (fun w' => w'.cell? ⟨w.heap.size, 0, none⟩ = some (.int .i64 k) ∧ w'.cell? ⟨w.heap.size, 1, none⟩ = some (.int .u64 b) ∧ w'.cell? ⟨w.heap.size, 2, none⟩ = some (.string t) ∧ w'.cell? ⟨w.heap.size + 1, 0, none⟩ = some (.int .i64 k') ∧ w'.cell? ⟨w.heap.size + 1, 1, none⟩ = some (.int .u64 b') ∧ w'.cell? ⟨w.heap.size + 1, 2, none⟩ = some (.string t')) (exact kk) (first | (go_at_call 9; refine (HF.out _ (HT.out.below (by exact ⟨bz.os, bz.tape, bz.output, bz.size, bz.block⟩))).mono ?_; rintro e v1 ⟨rfl, g⟩; have g := ofDrewF g; have bz := bz.trans (g.mono bz.size); have kk := And.intro (cellB g kk.1) (And.intro (cellB g kk.2.1) (And.intro (cellB g kk.2.2.1) (And.intro (cellB g kk.2.2.2.1) (And.intro (cellB g kk.2.2.2.2.1) (cellB g kk.2.2.2.2.2)))))) | (go_at_call 10; refine (HG.out _).mono ?_; rintro e v1 ⟨rfl, g⟩; have bz := bz.trans (g.mono bz.size); have kk := And.intro (cellB g kk.1) (And.intro (cellB g kk.2.1) (And.intro (cellB g kk.2.2.1) (And.intro (cellB g kk.2.2.2.1) (And.intro (cellB g kk.2.2.2.2.1) (cellB g kk.2.2.2.2.2)))))) | (go_at_call 8; refine (HK.out _).mono ?_; rintro e v1 ⟨rfl, g⟩; have bz := bz.trans (g.mono bz.size); have kk := And.intro (cellB g kk.1) (And.intro (cellB g kk.2.1) (And.intro (cellB g kk.2.2.1) (And.intro (cellB g kk.2.2.2.1) (And.intro (cellB g kk.2.2.2.2.1) (cellB g kk.2.2.2.2.2)))))) | (go_at_call 11; refine (HL.out _).mono ?_; rintro e v1 ⟨rfl, rfl⟩) | (go_at_call 12; refine (HC.out _ (HT.out.below (by exact bz))).mono ?_; rintro e v1 ⟨rfl, g⟩; have bz := bz.trans (g.mono bz.size); have kk := And.intro (cellB g kk.1) (And.intro (cellB g kk.2.1) (And.intro (cellB g kk.2.2.1) (And.intro (cellB g kk.2.2.2.1) (And.intro (cellB g kk.2.2.2.2.1) (cellB g kk.2.2.2.2.2)))))) | (go_at_call 13; refine (HD.out _).mono ?_; rintro e v1 ⟨rfl, g⟩; have bz := bz.trans (g.mono bz.size); have kk := And.intro (cellB g kk.1) (And.intro (cellB g kk.2.1) (And.intro (cellB g kk.2.2.1) (And.intro (cellB g kk.2.2.2.1) (And.intro (cellB g kk.2.2.2.2.1) (cellB g kk.2.2.2.2.2)))))))
  go_wp2
  go_ret
  exact ⟨rfl, bz⟩
end
theorem valueForms_walk (W : World) (hT : Tabs W) (v0 v1 v2 : Value) (h0 : Arg W 27 v0) (h1 : Arg W 27 v1) (h2 : Arg W 9 v2) :
    Calls Tryd.prog 4 #[v0, v1, v2] W fun e W' => e = .returned (.bool true) ∧ Below W.heap.size W W' := by
  obtain ⟨k, b, t, rfl, _, _, hb, _⟩ := h0.val
  obtain ⟨k', b', t', rfl, _, _, hb', _⟩ := h1.val
  obtain ⟨s, rfl, _⟩ := h2.string Tryd.underlying9
  by_cases h : 1000 < (t.size : Int) ∨ 1000 < (t'.size : Int) ∨ 1000 < (s.size : Int)
  · exact vf_long k b t k' b' t' s W h
  · exact vf_short k b t k' b' t' s W hT hb hb' (by omega) (by omega) (by omega)
end Go.Proofs.YtdoclbonbjkomaaDoor
