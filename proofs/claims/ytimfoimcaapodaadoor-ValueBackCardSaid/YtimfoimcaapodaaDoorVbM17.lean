import Derived.Test.YtimfoimcaapodaaDoorVbM13
import Derived.Test.YtimfoimcaapodaaDoorVbM14
import Derived.Test.YtimfoimcaapodaaDoorVbM16
set_option maxHeartbeats 25600000
set_option linter.unusedSimpArgs false
set_option linter.unusedVariables false
namespace Go.Proofs.YtimfoimcaapodaaDoor
set_option maxRecDepth 20000
open Go.RowKit
def hxA : Nat → Nat → List UInt8 → List UInt8
 | 0, _, acc => acc
 | n + 1, u, acc => hxA n (u / 16) (hexd (u % 16) :: acc)
theorem hxA_0 : ∀ (n : Nat) (acc : List UInt8), hxA n 0 acc = List.replicate n 48 ++ acc
 | 0, _ => rfl
 | n + 1, acc => by
   show hxA n 0 (hexd 0 :: acc) = _;rw [hxA_0 n, List.replicate_succ', List.append_assoc];rfl
theorem hexF_len : ∀ (f u : Nat) (acc : List UInt8), (hexF f u acc).length ≤ f + acc.length
 | 0, _, _ => by unfold hexF; omega
 | f + 1, u, acc => by
   unfold hexF
   split
   ·rw [List.length_cons]; omega
   ·have := hexF_len f (u / 16) (hexd (u % 16) :: acc);rw [List.length_cons] at this;omega
theorem hexF_hx : ∀ (f u : Nat) (acc : List UInt8), u < 16 ^ f → f ≠ 0 → List.replicate (f + acc.length - (hexF f u acc).length) 48 ++ hexF f u acc = hxA f u acc
 | 0, _, _, _, h => absurd rfl h
 | f + 1, u, acc, hu, _ => by
   unfold hexF hxA
   split
   ·rename_i h
    rw [show u / 16 = 0 by omega, show u % 16 = u by omega, hxA_0, List.length_cons, show f + 1 + acc.length - (acc.length + 1) = f by omega]
   ·rename_i h
    have hf : f ≠ 0 := by
     intro e;subst e;exact h hu
    have := hexF_hx f (u / 16) (hexd (u % 16) :: acc) (Nat.div_lt_of_lt_mul (by rw [Nat.pow_succ] at hu; omega)) hf;rw [List.length_cons, show f + (acc.length + 1) = f + 1 + acc.length by omega] at this;exact this
theorem hex16 (b : Nat) (hb : b < 18446744073709551616) : List.replicate (16 - (hexF 16 b []).length) 48 ++ hexF 16 b [] = hxA 16 b [] := hexF_hx 16 b [] hb (by decide)
theorem hxA_len : ∀ (n u : Nat) (acc : List UInt8), (hxA n u acc).length = n + acc.length
 | 0, _, _ => by unfold hxA; omega
 | n + 1, u, acc => by unfold hxA; rw [hxA_len n, List.length_cons]; omega
def showL (k : Int) (b : Nat) (t : List UInt8) : List UInt8 :=
 bif V.formed k b t then (if k = 1 then 35 :: hxA 16 b [] else if k = 2 then 36 :: t else [110, 111, 110, 101]) else []
theorem formed_k {k : Int} {b : Nat} {t : List UInt8} (h : V.formed k b t = true) : k = 0 ∨ k = 1 ∨ k = 2 := by
 unfold V.formed at h
 by_cases h0 : k = 0
 ·exact Or.inl h0
 ·by_cases h1 : k = 1
  ·exact Or.inr (Or.inl h1)
  ·by_cases h2 : k = 2
   ·exact Or.inr (Or.inr h2)
   ·simp [h0, h1, h2] at h
theorem exec_cons {P : Program} {a : Act} {o : Oper} {w : World} (x y : Operand) {t t2 : TypeId} {c : UInt8} {m : List UInt8} (ho : o.op = .binOp .add t x y t2) (hx : a.eval x = .string ⟨#[c]⟩) (hy : a.eval y = .string ⟨m.toArray⟩) (h : m.length ≤ 9223372036854775000) : (execOp a.eval o).run P w = .ok (.value (.string ⟨(c :: m).toArray⟩)) w :=
 exec_cat (l := [c]) x y ho hx hy (by show 1 + _ ≤ _; omega)
theorem vfL (k : Int) (b : Nat) (t : List UInt8) (w : World) (hT : VTabs w) : Calls Tryd.prog 10 #[.agg #[.int .i64 k, .int .u64 (b : Int), .string ⟨t.toArray⟩]] w fun e w' => e = .returned (.bool (V.formed k b t)) ∧ Below w.heap.size w w' := formed_any k b ⟨t.toArray⟩ w hT.tb
theorem show_any {w : World} (k : Int) (b : Nat) (tx : List UInt8) (hb : b < 18446744073709551616) (ht : tx.length ≤ 1000000) (hT : VTabs w) :
 Calls Tryd.prog 8 #[.agg #[.int .i64 k, .int .u64 (b : Int), .string ⟨tx.toArray⟩]] w fun e w' => e = .returned (.string ⟨(showL k b tx).toArray⟩) ∧ Below w.heap.size w w' := by
 have ee : Below w.heap.size w w := Below.refl _ _;have ee : Below w.heap.size w w := Below.refl _ _
 go_enter Tryd.func8, Tryd.ntmps8
 refine wp_seq_k fun K1 hK1 => wp_region_lit ?_;(with_reducible refine wwP (.cells ([.int .i64 k, .int .u64 (b : Int), .string ⟨(tx).toArray⟩]).toArray 24) fun g2 z1 hq_ t Zb1 => ?_);have hB_g2 := szG hq_ ee;have ee := bU ee t;(try simp only [zP]);(with_reducible refine wv (.string ((⟨#[]⟩ : ByteArray))) ?_);(try simp only [zP]);refine wpList_nil (hK1 _ _ (wp_seq_k fun K3 hK3 => wp_block (wp_seq_k fun K4 hK4 => wp_region_lit ?_)));(with_reducible refine wg (g2) (0) ([.int .i64 k, .int .u64 (b : Int), .string ⟨(tx).toArray⟩]) (rowAt Zb1) Tryd.underlying24 ?_;(try simp only [zP]);refine wcR (vfL k b tx z1 (hT.below ee)) fun z2 t => ?_);have Zb1 := hpB Zb1 t;have ee := bU ee t;generalize hb5 : V.formed k b tx = b5;(try simp only [zP]);cases b5
 ·(with_reducible refine wv (.bool true) ?_);(try simp only [zP]);(with_reducible refine wv (.bool true) ?_);(try simp only [zP]);refine wpList_nil (hK4 _ _ (wdT (wp_seq_k fun K6 hK6 => wp_region_lit ?_)));(with_reducible refine wv (.string ((⟨#[]⟩ : ByteArray))) ?_);(try simp only [zP]);refine wpList_nil (hK6 _ _ (wp_ret (inBlock_ret (then_ret ?_))));exact bodyPost_ret (v := .string ⟨#[]⟩) (by kernel_rfl) rfl ⟨by unfold showL; rw [hb5]; rfl, ee⟩
 (iterate 2 (with_reducible refine wv (.bool false) ?_));(try simp only [zP]);refine wpList_nil (hK4 _ _ (wdF (wp_seq_k fun K7 hK7 => wp_region_lit ?_)));(with_reducible refine wv (.pointer (some ⟨g2, 0, none⟩)) (wl (.int .i64 k) ⟨g2, 0, none⟩ (rowCell Zb1 (0) rfl) Tryd.underlying3 ?_));(try simp only [zP]);obtain ⟨b8, hb8⟩ := exB (decide (k = 1));(with_reducible refine wb (.bool b8) (.int .i64 k) (.int .i64 1) 3 (run_eqlI hb8) (wv (.bool b8) ?_));(try simp only [zP]);refine wpList_nil (hK7 _ _ ?_);cases b8
 ·have pb8 := dF hb8;refine wdF (wp_seq_k fun K9 hK9 => wp_region_lit ?_);(with_reducible refine wv (.pointer (some ⟨g2, 0, none⟩)) (wl (.int .i64 k) ⟨g2, 0, none⟩ (rowCell Zb1 (0) rfl) Tryd.underlying3 ?_));(try simp only [zP]);obtain ⟨b10, hb10⟩ := exB (decide (k = 2));(with_reducible refine wb (.bool b10) (.int .i64 k) (.int .i64 2) 3 (run_eqlI hb10) (wv (.bool b10) ?_));(try simp only [zP]);refine wpList_nil (hK9 _ _ ?_);cases b10
  ·have pb10 := dF hb10;refine wdF (wp_skip (inBlock_normal (hK3 _ _ (wp_seq_k fun K11 hK11 => wp_region_lit ?_))));(with_reducible refine wv (.string ((⟨#[110, 111, 110, 101]⟩ : ByteArray))) ?_);(try simp only [zP]);refine wpList_nil (hK11 _ _ (wp_ret ?_));have hk := formed_k hb5;exact bodyPost_ret (v := .string ((⟨#[110, 111, 110, 101]⟩ : ByteArray))) (by kernel_rfl) rfl ⟨by unfold showL; rw [hb5, cond_true]; rw [if_neg (by omega), if_neg (by omega)], ee⟩
  have pb10 : k = 2 := dT hb10;refine wdT (wp_seq_k fun K12 hK12 => wp_region_lit ?_);(with_reducible refine wv (.pointer (some ⟨g2, 2, none⟩)) (wl (.string ((⟨(tx).toArray⟩ : ByteArray))) ⟨g2, 2, none⟩ (rowCell Zb1 (2) rfl) Tryd.underlying9 ?_);(try simp only [zP]);refine wq (.string ⟨(36 :: tx).toArray⟩) (exec_cons (.const (.string ⟨#[36]⟩)) (.tmp 27) rfl rfl rfl (by omega)) (wv (.string ⟨(36 :: tx).toArray⟩) ?_));(try simp only [zP]);refine wpList_nil (hK12 _ _ (wp_ret (inBlock_ret (then_ret ?_))));have hk := formed_k hb5;exact bodyPost_ret (v := .string ⟨(36 :: tx).toArray⟩) (by kernel_rfl) rfl ⟨by unfold showL; rw [hb5, cond_true]; rw [if_neg (by omega), if_pos (by omega)], ee⟩
 have pb8 : k = 1 := dT hb8;refine wdT (wp_seq_k fun K13 hK13 => wp_region_lit ?_);(with_reducible refine wv (.pointer (some ⟨g2, 1, none⟩)) (wl (.int .u64 (b : Int)) ⟨g2, 1, none⟩ (rowCell Zb1 (1) rfl) Tryd.underlying22 ?_);(try simp only [zP]);refine wcR (fmt_any b hb (hT.below ee)) fun z3 t => ?_);have ee := bU ee t;(try simp only [zP]);(with_reducible refine wv (.string ⟨(hexF 16 b []).toArray⟩) ?_);(try simp only [zP]);refine wpList_nil (hK13 _ _ (wp_seq_k fun K14 hK14 => wp_region_lit ?_));(with_reducible refine wv (.string ⟨(hexF 16 b []).toArray⟩) (wv (.int .i64 (((hexF 16 b []).length : Int))) ?_));(try simp only [zP]);have hlen := hexF_len 16 b [];rw [List.length_nil] at hlen;(with_reducible refine wq (.int .i64 (((16 - (hexF 16 b []).length : Nat) : Int))) (okIntP (show IntKind.i64.wrap (16 - ((hexF 16 b []).length : Int)) = _ by rw [IntKind.wrap_i64]; omega) (by kernel_rfl)) ?_;(try simp only [zP]);refine wcS (rep_any (16 - (hexF 16 b []).length) (by omega)) ?_;(try simp only [zP]);refine wq (.string ⟨(35 :: List.replicate (16 - (hexF 16 b []).length) 48).toArray⟩) (exec_cons (.const (.string ⟨#[35]⟩)) (.tmp 18) rfl rfl rfl (by rw [List.length_replicate]; omega)) (wv (.string ⟨(hexF 16 b []).toArray⟩) ?_);(try simp only [zP]);refine wq (.string ⟨((35 :: List.replicate (16 - (hexF 16 b []).length) 48) ++ hexF 16 b []).toArray⟩) (exec_cat (.tmp 19) (.tmp 20) rfl rfl rfl (by rw [List.length_cons, List.length_replicate]; omega)) (wv (.string ⟨((35 :: List.replicate (16 - (hexF 16 b []).length) 48) ++ hexF 16 b []).toArray⟩) ?_));(try simp only [zP]);refine wpList_nil (hK14 _ _ (wp_ret (inBlock_ret (then_ret ?_))));have hk := formed_k hb5;exact bodyPost_ret (v := .string ⟨((35 :: List.replicate (16 - (hexF 16 b []).length) 48) ++ hexF 16 b []).toArray⟩) (by kernel_rfl) rfl ⟨by unfold showL; rw [hb5, cond_true]; rw [if_pos (by omega)]; exact congrArg (fun l_ : List UInt8 => Ending.returned (.string ⟨l_.toArray⟩)) (by rw [← hex16 b hb]; rfl), ee⟩
end Go.Proofs.YtimfoimcaapodaaDoor
