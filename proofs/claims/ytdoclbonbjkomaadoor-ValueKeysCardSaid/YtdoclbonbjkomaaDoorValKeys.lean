/- The walk of the law ValueKeys. -/
import Derived.Test.YtdoclbonbjkomaaDoorVal
namespace Go.Proofs.YtdoclbonbjkomaaDoor
open Go.RowKit
set_option linter.unusedSimpArgs false
set_option linter.unusedVariables false

set_option maxHeartbeats 3200000 in
theorem vkeys (a b : ByteArray) (c : Nat) (w : World) (hc : c < 256) :
    Calls Tryd.prog 3 #[.string a, .string b, .int .u8 (c : Int)] w fun e w' => e = .returned (.bool true) ∧ Below w.heap.size w w' := by
  by_cases hl : 1000 < a.size ∨ 1000 < b.size
  · by_cases h1 : 1000 < a.size
    · clear hl
      go_enter Tryd.func3, Tryd.ntmps3
      go_wp2_with fail
      refine (v_awake _).mono ?_
      rintro e w1 ⟨rfl, hb1⟩
      go_wp2_with fail
      refine (v_awake _).mono ?_
      rintro e w2 ⟨rfl, hb2⟩
      go_wp2_with fail
      go_ret
      exact ⟨rfl, hb1.trans (hb2.mono hb1.size)⟩
    · have h2 : 1000 < b.size := by omega
      clear hl
      go_enter Tryd.func3, Tryd.ntmps3
      go_wp2_with fail
      refine (v_awake _).mono ?_
      rintro e w1 ⟨rfl, hb1⟩
      go_wp2_with fail
      refine (v_awake _).mono ?_
      rintro e w2 ⟨rfl, hb2⟩
      go_wp2_with fail
      go_ret
      exact ⟨rfl, hb1.trans (hb2.mono hb1.size)⟩
  · have ha : a.size ≤ 1000 := by omega
    have hb : b.size ≤ 1000 := by omega
    have HE := Lib.hid (fun w => key_any ⟨#[]⟩ w (by decide))
    have he : V.key (⟨#[]⟩ : ByteArray).data.toList = false := rfl
    rw [he] at HE
    have HKA := Lib.hid (fun w => key_any a w (by omega))
    have HKB := Lib.hid (fun w => key_any b w (by omega))
    clear hl he
    cases hka : V.key a.data.toList with
    | false =>
      rw [hka] at HKA
      clear hka
      go_enter Tryd.func3, Tryd.ntmps3
      go_wp2_with fail
      refine (v_awake _).mono ?_
      rintro e w1 ⟨rfl, b1⟩
      go_wp2_with fail
      refine (HE.out _).mono ?_
      rintro e w2 ⟨rfl, b2⟩
      have b2 := b1.trans (b2.mono b1.size)
      go_wp2_with fail
      refine (HKA.out _).mono ?_
      rintro e w3 ⟨rfl, b3⟩
      have b3 := b2.trans (b3.mono b2.size)
      go_wp2_with fail
      refine (HE.out _).mono ?_
      rintro e w4 ⟨rfl, b4⟩
      have b4 := b3.trans (b4.mono b3.size)
      go_wp2_with fail
      go_ret
      exact ⟨rfl, b4⟩
    | true =>
      rw [hka] at HKA
      cases hkb : V.key b.data.toList with
      | false =>
        rw [hkb] at HKB
        clear hka hkb
        go_enter Tryd.func3, Tryd.ntmps3
        go_wp2_with fail
        refine (v_awake _).mono ?_
        rintro e w1 ⟨rfl, b1⟩
        go_wp2_with fail
        refine (HE.out _).mono ?_
        rintro e w2 ⟨rfl, b2⟩
        have b2 := b1.trans (b2.mono b1.size)
        go_wp2_with fail
        refine (HKA.out _).mono ?_
        rintro e w3 ⟨rfl, b3⟩
        have b3 := b2.trans (b3.mono b2.size)
        go_wp2_with fail
        refine (HKB.out _).mono ?_
        rintro e w4 ⟨rfl, b4⟩
        have b4 := b3.trans (b4.mono b3.size)
        go_wp2_with fail
        refine (HE.out _).mono ?_
        rintro e w5 ⟨rfl, b5⟩
        have b5 := b4.trans (b5.mono b4.size)
        go_wp2_with fail
        go_ret
        exact ⟨rfl, b5⟩
      | true =>
        rw [hkb] at HKB
        have hsa : a.data.toList.length = a.size := by rw [Array.length_toList]; rfl
        have hsb : b.data.toList.length = b.size := by rw [Array.length_toList]; rfl
        have ha1 : 1 ≤ a.size := by
          have := hka; unfold V.key at this; simp only [Bool.and_eq_true, decide_eq_true_eq] at this; omega
        obtain ⟨n, hn⟩ : ∃ n, n = c % a.size := ⟨_, rfl⟩
        have hnl : n < a.size := by rw [hn]; exact Nat.mod_lt _ (by omega)
        have hne : (c : Int) % (a.size : Int) = (n : Int) := by rw [hn]; simp
        have HNE := Lib.hid hne
        have HNN := Lib.hid hn
        have hm0 : (0 : Int) ≤ (c : Int) % (a.size : Int) := by rw [hne]; omega
        have hm1 : (c : Int) % (a.size : Int) < (a.size : Int) := by rw [hne]; omega
        have hz : ((a.size : Int) == 0) = false := beq_eq_false_iff_ne.2 (by omega)
        have k1 : V.key ((a.data.toList).take (1 + n)) = true := V.key_take hka (1 + n) (by omega)
        have k2 : V.key (a.data.toList ++ b.data.toList) = decide (a.size + b.size ≤ 12) := by rw [V.key_app hka hkb, hsa, hsb]
        have k3 := V.key_dash a.data.toList
        have k4 := V.key_A b.data.toList
        have K1 := Lib.hid k1
        have K2 := Lib.hid k2
        have K3 := Lib.hid k3
        have K4 := Lib.hid k4
        clear k1 k2 k3 k4 hka hkb hsa hsb hn hne
        go_enter Tryd.func3, Tryd.ntmps3
        go_wp2_with fail
        refine (v_awake _).mono ?_
        rintro e w1 ⟨rfl, b1⟩
        go_wp2_with fail
        refine (HE.out _).mono ?_
        rintro e w2 ⟨rfl, b2⟩
        have b2 := b1.trans (b2.mono b1.size)
        go_wp2_with fail
        refine (HKA.out _).mono ?_
        rintro e w3 ⟨rfl, b3⟩
        have b3 := b2.trans (b3.mono b2.size)
        go_wp2_with fail
        refine (HKB.out _).mono ?_
        rintro e w4 ⟨rfl, b4⟩
        have b4 := b3.trans (b4.mono b3.size)
        go_wp2_with fail
        rw [HNE.out, show c % a.size = n from HNN.out.symm]
        refine (key_any _ _ ?c1).mono ?_
        case c1 => rw [ByteArray.size_extract]; omega
        rw [show (a.extract 0 (1 + n)).data.toList = a.data.toList.take (1 + n) from by rw [ByteArray.data_extract, Array.toList_extract]; simp, K1.out]
        rintro e w5 ⟨rfl, b5⟩
        have b5 := b4.trans (b5.mono b4.size)
        go_wp2_with fail
        refine (key_any _ _ ?c2).mono ?_
        case c2 => rw [ByteArray.size_append]; omega
        rw [show (a ++ b).data.toList = a.data.toList ++ b.data.toList from by rw [ByteArray.data_append, Array.toList_append], K2.out]
        rintro e w6 ⟨rfl, b6⟩
        have b6 := b5.trans (b6.mono b5.size)
        have hd2 : decide (a.size + b.size ≤ 12) = decide ((a.size : Int) + (b.size : Int) ≤ 12) := by
          rw [decide_eq_decide]; omega
        rw [hd2]
        clear hd2
        go_wp2_with fail
        refine (key_any _ _ ?c3).mono ?_
        case c3 => rw [ByteArray.size_append, show (⟨#[45]⟩ : ByteArray).size = 1 from rfl]; omega
        rw [show (a ++ (⟨#[45]⟩ : ByteArray)).data.toList = a.data.toList ++ [45] from by rw [ByteArray.data_append, Array.toList_append], K3.out]
        rintro e w7 ⟨rfl, b7⟩
        have b7 := b6.trans (b7.mono b6.size)
        go_wp2_with fail
        refine (key_any _ _ ?c4).mono ?_
        case c4 => rw [ByteArray.size_append, show (⟨#[65]⟩ : ByteArray).size = 1 from rfl]; omega
        rw [show ((⟨#[65]⟩ : ByteArray) ++ b).data.toList = 65 :: b.data.toList from by rw [ByteArray.data_append, Array.toList_append]; rfl, K4.out]
        rintro e w8 ⟨rfl, b8⟩
        have b8 := b7.trans (b8.mono b7.size)
        go_wp2_with fail
        go_ret
        exact ⟨rfl, b8⟩

theorem valueKeys_walk (W : World) (v0 v1 v2 : Value) (h0 : Arg W 9 v0) (h1 : Arg W 9 v1) (h2 : Arg W 5 v2) :
    Calls Tryd.prog 3 #[v0, v1, v2] W fun e W' => e = .returned (.bool true) ∧ Below W.heap.size W W' := by
  obtain ⟨a, rfl, _⟩ := h0.string Tryd.underlying9
  obtain ⟨b, rfl, _⟩ := h1.string Tryd.underlying9
  obtain ⟨c, rfl, hc⟩ := h2.u8 Tryd.underlying5
  exact vkeys a b c W hc
end Go.Proofs.YtdoclbonbjkomaaDoor
