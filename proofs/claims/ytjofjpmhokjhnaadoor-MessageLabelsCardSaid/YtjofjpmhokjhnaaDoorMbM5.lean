/- utf8.ValidString's tables: what the row lists is what the contract asks. No condition. -/
import Derived.Test.YtjofjpmhokjhnaaDoorMbM1
import Derived.Test.YtjofjpmhokjhnaaDoorShelfTrim
import Derived.Lib.SlTrimSet
import Derived.Laws.Externs
import Derived.Laws.Bits64
import Derived.Laws.Bits64b
import Derived.Lib.LaidIn
import Derived.Lib.LaidU8T
import Derived.PinnedBridge
import Derived.SizedLaws
import Derived.Test.YtjofjpmhokjhnaaDoorShelfValid
namespace Go.Proofs.YtjofjpmhokjhnaaDoor
set_option maxRecDepth 20000
open Go.RowKit
set_option linter.unusedSimpArgs false
set_option linter.unusedVariables false

namespace V
/-- is a byte a key's -/
def kb (b : UInt8) : Bool := decide (97 ≤ b.toNat ∧ b.toNat ≤ 122) || decide (48 ≤ b.toNat ∧ b.toNat ≤ 57)
def cut : List UInt8 := [97, 98, 99, 100, 101, 102, 103, 104, 105, 106, 107, 108, 109, 110, 111, 112, 113, 114, 115, 116, 117, 118, 119, 120, 121, 122, 48, 49, 50, 51, 52, 53, 54, 55, 56, 57]
theorem kb_cut : ∀ b : UInt8, cut.contains b = kb b := by
  have h : ∀ n : Fin 256, cut.contains (UInt8.ofNat n.val) = kb (UInt8.ofNat n.val) := by decide +kernel
  intro b
  have := h ⟨b.toNat, b.toNat_lt⟩
  simpa using this
def key (l : List UInt8) : Bool := decide (1 ≤ l.length) && decide (l.length ≤ 12) && l.all kb
theorem all_of_drop (p : UInt8 → Bool) (l : List UInt8) (h : ∀ y ∈ l.dropWhile p, p y = true) : ∀ y ∈ l, p y = true := by
  induction l with
  | nil => intro y hy; cases hy
  | cons a l ih =>
    by_cases ha : p a = true
    · rw [List.dropWhile_cons_of_pos ha] at h
      intro y hy
      rcases List.mem_cons.1 hy with rfl | hy
      · exact ha
      · exact ih h y hy
    · rw [List.dropWhile_cons_of_neg ha] at h
      exact h
theorem drop_nil (p : UInt8 → Bool) (l : List UInt8) (h : ∀ y ∈ l, p y = true) : l.dropWhile p = [] := by
  induction l with
  | nil => rfl
  | cons a l ih =>
    rw [List.dropWhile_cons_of_pos (h a (by simp))]
    exact ih fun y hy => h y (by simp [hy])
theorem trim_nil (l : List UInt8) : (Lib.trimS l cut = []) ↔ l.all kb = true := by
  have e : (fun b => cut.contains b) = kb := funext kb_cut
  unfold Lib.trimS Lib.trimLeftS Lib.trimRightS
  rw [e, List.all_eq_true]
  constructor
  · intro h y hy
    have h1 : ∀ y ∈ (l.reverse.dropWhile kb).reverse, kb y = true := all_of_drop kb _ (by rw [h]; intro y hy; cases hy)
    have h2 := all_of_drop kb l.reverse (fun y hy => h1 y (by simpa using hy))
    exact h2 y (by simpa using hy)
  · intro h
    rw [drop_nil kb l.reverse (fun y hy => h y (by simpa using hy))]
    rfl
end V

set_option maxHeartbeats 1600000 in
theorem key_any (s : ByteArray) (w : World) (hs : s.size ≤ 9223372036854775807) :
    Calls Tryd.prog 49 #[.string s] w fun e w' => e = .returned (.bool (V.key s.data.toList)) ∧ Below w.heap.size w w' := by
  have hsz : s.data.toList.length = s.size := by rw [Array.length_toList]; rfl
  have hcon := Any.strings_Trim_laid Tryd.laysTrim (by kernel_rfl) s ⟨V.cut.toArray⟩ w hs (by decide) (ascii_of_all (by decide))
  change Calls Tryd.prog 106 _ _ (fun e w' => e = .returned (.string ⟨(Lib.trimS s.data.toList V.cut).toArray⟩) ∧ Below w.heap.size w w') at hcon
  obtain ⟨v, hv⟩ : ∃ v, v = V.key s.data.toList := ⟨_, rfl⟩
  have HV := Lib.hid hv
  rw [← hv]
  unfold V.key at hv
  by_cases h1 : 1 ≤ s.size
  · by_cases h12 : s.size ≤ 12
    · rw [hsz, decide_eq_true h1, decide_eq_true h12, Bool.true_and, Bool.true_and] at hv
      have ht := V.trim_nil s.data.toList
      obtain ⟨r, hr⟩ : ∃ r, r = Lib.trimS s.data.toList V.cut := ⟨_, rfl⟩
      rw [← hr] at hcon ht
      rw [← hv] at ht
      have HC := Lib.hid hcon
      clear hcon hr hv HV hsz
      have hrr : (⟨r.toArray⟩ : ByteArray).toList.isEmpty = v := by
        rw [Lib.toList_data]
        simp only [List.toList_toArray]
        cases v with
        | true => rw [ht.2 rfl]; rfl
        | false => cases r with
          | nil => have := ht.1 rfl; cases this
          | cons a r => rfl
      have HR := Lib.hid hrr
      clear ht hrr
      go_enter Tryd.func49, Tryd.ntmps49
      go_wp2_with fail
      refine HC.out.mono ?_
      rintro e w1 ⟨rfl, b1⟩
      generalize (⟨r.toArray⟩ : ByteArray) = rs at HR
      go_wp2_with fail
      go_ret
      exact ⟨ret_bool HR.out, b1⟩
    · have hf : v = false := by rw [hv, hsz, decide_eq_false h12]; simp
      have HF := Lib.hid hf
      clear hcon hv HV hsz hf
      go_enter Tryd.func49, Tryd.ntmps49
      go_wp2_with fail
      go_ret
      exact ⟨ret_bool HF.out.symm, Below.refl _ _⟩
  · have hf : v = false := by rw [hv, hsz, decide_eq_false h1]; simp
    have HF := Lib.hid hf
    clear hcon hv HV hsz hf
    go_enter Tryd.func49, Tryd.ntmps49
    go_wp2_with fail
    go_ret
    exact ⟨ret_bool HF.out.symm, Below.refl _ _⟩

namespace V
end V
end Go.Proofs.YtjofjpmhokjhnaaDoor

namespace Go.Proofs.YtjofjpmhokjhnaaDoor
set_option maxRecDepth 20001
open Go.RowKit
set_option linter.unusedSimpArgs false
set_option linter.unusedVariables false

namespace V
/-- are the bits a NaN's: a number that isn't equal to itself -/
def nan (b : Nat) : Bool := FloatKind.f64.format.order b b != some Ordering.eq
def ncanon (b : Nat) : Nat := bif nan b then 9221120237041090560 else b
end V

/-- the bits as a float -/
theorem run_frombits (b : Nat) (w : World) : (callFunc 123 #[.int .u64 b]).run Tryd.prog w = .ok (.value (.float .f64 b)) w := by
  rw [run_callFunc_extern Tryd.func123 (by kernel_rfl) (by kernel_rfl) (by kernel_rfl) (e := Go.Extern.MathFloatBits.float64frombits) (by kernel_rfl)]
  rfl

set_option maxHeartbeats 800000 in
theorem ncanon_any (b : Nat) (w : World) :
    Calls Tryd.prog 104 #[.int .u64 b] w fun e w' => e = .returned (.int .u64 (V.ncanon b)) ∧ w' = w := by
  have hfb := run_frombits b
  obtain ⟨p, hp⟩ : ∃ p, p = V.ncanon b := ⟨_, rfl⟩
  rw [← hp]
  have HP := Lib.hid hp
  clear hp
  go_enter Tryd.func104, Tryd.ntmps104
  go_wp2
  all_goals
    rename_i h
    go_ret
    refine ⟨ret_int ?_, rfl⟩
    rw [HP.out]
    unfold V.ncanon V.nan
    rw [h]
    rfl

end Go.Proofs.YtjofjpmhokjhnaaDoor

namespace Go.Proofs.YtjofjpmhokjhnaaDoor
set_option maxRecDepth 20001
open Go.RowKit Go.Shelf

/-- the settled world, the two tables holding what their initialisers lay -/
noncomputable def laidWorld (os : Os) : World :=
  let w0 := World.holding Tryd.prog os ⟨#[], #[], []⟩
  let put (h : Array Obj) (g : Nat) (cs : Array Value) : Array Obj := h.modify g fun
    | .cells _ t frozen => .cells cs t frozen
    | o => o
  let h1 := put w0.heap 0 (Lib.firstTab.map fun z => Value.int .u8 z).toArray
  let h2 := put h1 1 ((List.range 16).flatMap fun i => [Value.int .u8 (Lib.accLo i), Value.int .u8 (Lib.accHi i)]).toArray
  { w0 with heap := h2 }
/-- what the rows list -/
def laidList : List (String × DataW Unit) := Rows.messageZeroRow.laid
theorem laid_met (os : Os) (args : Array Value) : laidMet Tryd.prog laidList ((laidWorld os).forCall (fun _ _ => 0) ⟨#[], args, []⟩).memory :=
  (LaidIn.of_run (l := laidList) [0, 1] 8 (by kernel_rfl) (by kernel_rfl) (by kernel_rfl) (by kernel_rfl)).met
end Go.Proofs.YtjofjpmhokjhnaaDoor

namespace Go.Proofs.YtjofjpmhokjhnaaDoor
set_option maxRecDepth 20001
open Go.RowKit Go.Shelf

/-- the two tables of utf8 lie as their initialisers lay them -/
def Tabs (w : World) : Prop := Lib.Utf8Tabs (Tryd.laysValid_ren.g 3) (Tryd.laysValid_ren.g 4) w
theorem Tabs.below {w w' : World} (h : Tabs w) (hb : Below w.heap.size w w') : Tabs w' := Utf8Tabs_below h hb
theorem tabs_of {W : World} (hL : laidMet Tryd.prog laidList W) : Tabs W :=
  utf8Tabs_of_readsT (U8Types.of196 Tryd.laysValid) ⟨by kernel_rfl, by kernel_rfl, by kernel_rfl, by kernel_rfl, by kernel_rfl, by kernel_rfl, by kernel_rfl⟩
    (Pinned.utf8First_eq ▸ Lib.laidMet.reads hL (.tail _ (.head _))) (Lib.laidMet.reads hL (.head _))
theorem valid_any (s : ByteArray) (w : World) (hs : s.size ≤ 9223372036854775807) (hT : Tabs w) :
    Calls Tryd.prog 105 #[.string s] w fun e w' => e = .returned (.bool (Lib.validD s.data.toList)) ∧ Below w.heap.size w w' :=
  Any.utf8_ValidString Tryd.laysValid s w hs hT
end Go.Proofs.YtjofjpmhokjhnaaDoor
