/- The walk of the law ValueOrder. -/
import Derived.Test.YtdoclbonbjkomaaDoorValOrdB
import Derived.Test.YtdoclbonbjkomaaDoorValArg
namespace Go.Proofs.YtdoclbonbjkomaaDoor
open Go.RowKit
theorem vorder (k : Int) (b : Nat) (t : ByteArray) (k' : Int) (b' : Nat) (t' : ByteArray) (k2 : Int) (b2 : Nat) (t2 : ByteArray) (w : World) (hT : Tabs w)
    (bb : b < 18446744073709551616) (bb' : b' < 18446744073709551616) (bb2 : b2 < 18446744073709551616) :
    Calls Tryd.prog 5 #[V.val k b t, V.val k' b' t', V.val k2 b2 t2] w fun e w' => e = .returned (.bool true) ∧ Below w.heap.size w w' := by
  by_cases h1 : 1000 < (t.size : Int)
  · exact vo_la k b t k' b' t' k2 b2 t2 w h1
  by_cases h2 : 1000 < (t'.size : Int)
  · exact vo_lb k b t k' b' t' k2 b2 t2 w h1 h2
  by_cases h3 : 1000 < (t2.size : Int)
  · exact vo_lc k b t k' b' t' k2 b2 t2 w h1 h2 h3
  cases f0 : V.formed k b t.data.toList with
  | false => exact vo_f0 k b t k' b' t' k2 b2 t2 w hT h1 h2 h3 f0
  | true =>
    cases f1 : V.formed k' b' t'.data.toList with
    | false => exact vo_f1 k b t k' b' t' k2 b2 t2 w hT h1 h2 h3 f0 f1
    | true =>
      cases f2 : V.formed k2 b2 t2.data.toList with
      | false => exact vo_f2 k b t k' b' t' k2 b2 t2 w hT h1 h2 h3 f0 f1 f2
      | true =>
        have hz := V.vcmp_zero f0 f1 bb bb'
        have hn := V.vcmp_neg f0 f1
        have hv : V.vcmp k b t.data.toList k' b' t'.data.toList = -1 ∨ V.vcmp k b t.data.toList k' b' t'.data.toList = 0 ∨ V.vcmp k b t.data.toList k' b' t'.data.toList = 1 := by
          rw [V.vcmp_eq f0 f1]
          have e1 := V.cmp_vals k k'
          have e2 := V.cmp_vals (V.nkey b) (V.nkey b')
          have e3 := V.cmps_vals t.data.toList t'.data.toList
          unfold V.or3
          split
          · split <;> omega
          · omega
        have ht := V.vcmp_trans f0 f1 f2
        by_cases heq : k = k' ∧ b = b' ∧ t.data.toList = t'.data.toList
        · obtain ⟨rfl, rfl, e⟩ := heq
          have e : t = t' := by
            obtain ⟨⟨l⟩⟩ := t
            obtain ⟨⟨l'⟩⟩ := t'
            simp only at e
            rw [e]
          subst e
          have h0 := hz.2 ⟨rfl, rfl, rfl⟩
          by_cases hbc : 0 < V.vcmp k b t.data.toList k2 b2 t2.data.toList
          · exact vo_eq_bc k b t k2 b2 t2 w hT h1 h3 f0 f2 bb bb2 h0 hbc
          · exact vo_eq_ac k b t k2 b2 t2 w hT h1 h3 f0 f2 bb bb2 h0 hbc (by omega)
        · have hne : ¬ (k = k' ∧ b = b' ∧ t.toList = t'.toList) := by rw [Lib.toList_data, Lib.toList_data]; exact heq
          rcases hv with hp | hp | hp
          · by_cases hbc : 0 < V.vcmp k' b' t'.data.toList k2 b2 t2.data.toList
            · exact vo_lt_bc k b t k' b' t' k2 b2 t2 w hT h1 h2 h3 f0 f1 f2 bb bb' bb2 hne hp (by omega) hbc
            · exact vo_lt_ac k b t k' b' t' k2 b2 t2 w hT h1 h2 h3 f0 f1 f2 bb bb' bb2 hne hp (by omega) hbc (ht (by omega) (by omega))
          · exact absurd (hz.1 hp) heq
          · exact vo_gt k b t k' b' t' k2 b2 t2 w hT h1 h2 h3 f0 f1 f2 bb bb' bb2 hne hp (by omega)

theorem valueOrder_walk (W : World) (hT : Tabs W) (v0 v1 v2 : Value) (h0 : Arg W 27 v0) (h1 : Arg W 27 v1) (h2 : Arg W 27 v2) :
    Calls Tryd.prog 5 #[v0, v1, v2] W fun e W' => e = .returned (.bool true) ∧ Below W.heap.size W W' := by
  obtain ⟨k, b, t, rfl, _, _, hb, _⟩ := h0.val
  obtain ⟨k', b', t', rfl, _, _, hb', _⟩ := h1.val
  obtain ⟨k2, b2, t2, rfl, _, _, hb2, _⟩ := h2.val
  exact vorder k b t k' b' t' k2 b2 t2 W hT hb hb' hb2
end Go.Proofs.YtdoclbonbjkomaaDoor
