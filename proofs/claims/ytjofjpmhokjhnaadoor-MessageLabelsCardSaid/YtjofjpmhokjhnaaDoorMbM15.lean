/- message.Formed. Conditions: what lies, lies below. (Printed by gen_msg.py.) -/
import Derived.Test.YtjofjpmhokjhnaaDoorMbM12
import Derived.Lib.Strings
import Derived.Lib.Slices
import Derived.Lib.Walk
import Derived.Lib.Bytealg
import Derived.Lib.Bytes
import Derived.Test.YtjofjpmhokjhnaaDoorMbM14
import Derived.Test.YtjofjpmhokjhnaaDoorMbM19
import Derived.Deep.QuietTactic
namespace Go.Proofs.YtjofjpmhokjhnaaDoor
set_option maxRecDepth 20000
open Go.RowKit T
set_option linter.unusedSimpArgs false
set_option linter.unusedVariables false

set_option maxHeartbeats 1000000 in
theorem bequal_any (A : Option Addr) (c : Nat) (l : List UInt8) (A' : Option Addr) (c' : Nat) (l' : List UInt8) (B : Nat) (w : World) (h : Rd w B A (bc l)) (h' : Rd w B A' (bc l')) :
    Calls Tryd.prog 58 #[.slice A l.length c, .slice A' l'.length c'] w fun e w' => e = .returned (.bool (decide (l = l'))) ∧ w = w' := by
  have e1 := run_string_rd (P := Tryd.prog) w 37 5 9 Tryd.underlying37 Tryd.underlying5 Tryd.underlying9 B A c l h
  have e2 := run_string_rd (P := Tryd.prog) w 37 5 9 Tryd.underlying37 Tryd.underlying5 Tryd.underlying9 B A' c' l' h'
  have e3 : (l == l') = decide (l = l') := by
    by_cases q : l = l'
    · subst q; simp
    · rw [decide_eq_false q]; simpa using q
  clear h h'
  generalize decide (l = l') = d at e3 ⊢
  go_enter Tryd.func58, Tryd.ntmps58
  go_wp2
  go_ret
  refine ⟨?_, rfl⟩
  rw [← e3]
  rfl
set_option maxHeartbeats 1000000 in
theorem sIndexByte (s : ByteArray) (c : Int) (w : World) :
    Calls Tryd.prog 134 #[.string s, .int .u8 c] w fun e w' => e = .returned (.int .i64 (Lib.indexByte s.data.toList c.toNat.toUInt8)) ∧ w' = w := by
  go_enter Tryd.func134, Tryd.ntmps134
  go_wp2
  rw [run_callFunc_extern Tryd.func143 (by kernel_rfl) (by kernel_rfl) (by kernel_rfl) (e := Extern.BytealgIndexByte.indexByte) (by kernel_rfl), Lib.run_indexByteString]
  simp only [Result.andThen]
  rw [Oper.upon_value]
  go_wp2
  go_ret
  exact ⟨rfl, rfl⟩
set_option maxHeartbeats 2000000 in
theorem sliteIndex (s : ByteArray) (c : UInt8) (w : World) :
    Calls Tryd.prog 120 #[.string s, .string ⟨#[c]⟩] w fun e w' => e = .returned (.int .i64 (Lib.indexByte s.data.toList c)) ∧ w' = w := by
  go_enter Tryd.func120, Tryd.ntmps120
  go_wp2_with (go_at_call 134; refine (sIndexByte _ _ _).mono ?_; rintro e w' ⟨rfl, rfl⟩)
  · have h : ([c] == s.toList) = true := by assumption
    go_ret
    refine ⟨?_, rfl⟩
    have e : s.data.toList = [c] := by rw [← Lib.toList_data]; exact (beq_iff_eq.1 h).symm
    rw [e]
    simp [Lib.indexByte]
  · go_ret
    exact ⟨rfl, rfl⟩
set_option maxHeartbeats 1000000 in
theorem sIndex (s : ByteArray) (c : UInt8) (w : World) :
    Calls Tryd.prog 98 #[.string s, .string ⟨#[c]⟩] w fun e w' => e = .returned (.int .i64 (Lib.indexByte s.data.toList c)) ∧ w' = w := by
  go_enter Tryd.func98, Tryd.ntmps98
  go_wp2_with (go_at_call 120; refine (sliteIndex _ _ _).mono ?_; rintro e w' ⟨rfl, rfl⟩)
  go_ret
  exact ⟨rfl, rfl⟩
set_option maxHeartbeats 1000000 in
theorem sContains (s : ByteArray) (c : UInt8) (w : World) :
    Calls Tryd.prog 43 #[.string s, .string ⟨#[c]⟩] w fun e w' => e = .returned (.bool (decide (0 ≤ Lib.indexByte s.data.toList c))) ∧ w' = w := by
  go_enter Tryd.func43, Tryd.ntmps43
  go_wp2_with (go_at_call 98; refine (sIndex _ _ _).mono ?_; rintro e w' ⟨rfl, rfl⟩)
  go_ret
  exact ⟨rfl, rfl⟩
theorem indexByte_mem (l : List UInt8) (c : UInt8) : decide (0 ≤ Lib.indexByte l c) = decide (c ∈ l) := by
  induction l with
  | nil => simp [Lib.indexByte]
  | cons b t ih =>
    have hg := Lib.indexByte_ge t c
    unfold Lib.indexByte
    by_cases h : b = c
    · subst h; simp
    · have h2 : (b == c) = false := by simpa using h
      rw [h2]
      have h3 : (c ∈ b :: t) ↔ c ∈ t := by simp [List.mem_cons, Ne.symm h]
      rw [decide_eq_decide] at ih ⊢
      rw [h3, ← ih]
      by_cases h4 : Lib.indexByte t c = -1
      · simp [h4]
      · have h5 : (Lib.indexByte t c == -1) = false := by simpa using h4
        simp only [Bool.false_eq_true, if_false, h5]
        omega
/-- are two transactions alike -/
def SameT (x y : Tn) : Bool := decide (x.s = y.s ∧ x.q = y.q ∧ x.rs = y.rs ∧ x.ws = y.ws)
/-- are two messages alike -/
def T.Ms.same (a b : Ms) : Bool := (a.kd == b.kd) && (decide (a.br = b.br ∧ a.bn = b.bn)) && (a.sl == b.sl) && (a.ha == b.ha) && (decide (a.vr = b.vr ∧ a.vn = b.vn)) && (decide (a.ii = b.ii ∧ a.ij = b.ij)) && (a.g == b.g) && ((a.st : Int) == (b.st : Int)) && (a.ye == b.ye) && (a.nu == b.nu) && (a.ky.toList == b.ky.toList) && ((a.ve : Int) == (b.ve : Int)) && (decide (a.vk = b.vk ∧ a.vb = b.vb ∧ a.vt.toList = b.vt.toList)) && (a.er == b.er) && (SameC a.c b.c) && (SameT a.t b.t) && (decide (a.dt = b.dt))
end Go.Proofs.YtjofjpmhokjhnaaDoor

namespace Go.Proofs.YtjofjpmhokjhnaaDoor
set_option maxRecDepth 20001
open Go.RowKit T
set_option linter.unusedSimpArgs false
set_option linter.unusedVariables false

namespace T
/-- the first half of Formed: what is used, and the bounds -/
def Ms.fit (m : Ms) : Bool := !decide (fieldsOf m.kd = []) && m.only.same m && !decide (m.sl < 0) && !decide (1000000 < m.sl) && !decide (m.nu < 0) && !decide (2147483647 < m.nu) && !decide (m.g < 0) && !decide (4 ≤ m.g) && !decide (m.er < 0) && !decide (11 < m.er) && !decide (59900 < (m.dt.length : Int))
/-- the second half: the parts -/
def Ms.sound (m : Ms) : Bool := !(decide ((66 : UInt8) ∈ fieldsOf m.kd) && !B.formed m.bn) && !(m.ha && !B.formed m.vn) && !((decide ((67 : UInt8) ∈ fieldsOf m.kd) || m.ha) && !m.c.formed) && !(decide ((84 : UInt8) ∈ fieldsOf m.kd) && !T.formed m.t.s m.t.q m.t.rs m.t.ws) && !(decide ((73 : UInt8) ∈ fieldsOf m.kd) && !T.idb m.ii m.ij) && V.formed m.vk m.vb m.vt.data.toList && !(decide ((75 : UInt8) ∈ fieldsOf m.kd) && !V.key m.ky.data.toList && (!decide (m.ky.data.toList = []) || !decide (m.kd = 13)))
def Ms.formed (m : Ms) : Bool := m.fit && m.sound
end T
theorem putOk {w : World} {B : Nat} {m o : Ms} (h : MsOk w B m) (ho : MsOk w B o) (l : Nat) : MsOk w B (m.put o l) := by
  unfold Ms.put
  by_cases l66 : l = 66
  · rw [if_pos l66]; exact { ho with br := h.br }
  rw [if_neg l66]
  by_cases l83 : l = 83
  · rw [if_pos l83]; exact { ho with br := ho.br }
  rw [if_neg l83]
  by_cases l72 : l = 72
  · rw [if_pos l72]
    cases hb : m.ha with
    | true => rw [if_pos rfl]; exact { ho with c := h.c, vr := h.vr }
    | false => rw [if_neg (by decide)]; exact { ho with br := ho.br }
  rw [if_neg l72]
  by_cases l67 : l = 67
  · rw [if_pos l67]; exact { ho with c := h.c }
  rw [if_neg l67]
  by_cases l84 : l = 84
  · rw [if_pos l84]; exact { ho with t := h.t }
  rw [if_neg l84]
  by_cases l73 : l = 73
  · rw [if_pos l73]; exact { ho with br := ho.br }
  rw [if_neg l73]
  by_cases l71 : l = 71
  · rw [if_pos l71]; exact { ho with br := ho.br }
  rw [if_neg l71]
  by_cases l80 : l = 80
  · rw [if_pos l80]; exact { ho with st := h.st }
  rw [if_neg l80]
  by_cases l89 : l = 89
  · rw [if_pos l89]; exact { ho with br := ho.br }
  rw [if_neg l89]
  by_cases l78 : l = 78
  · rw [if_pos l78]; exact { ho with br := ho.br }
  rw [if_neg l78]
  by_cases l75 : l = 75
  · rw [if_pos l75]; exact { ho with ks := h.ks }
  rw [if_neg l75]
  by_cases l86 : l = 86
  · rw [if_pos l86]; exact { ho with ve := h.ve }
  rw [if_neg l86]
  by_cases l88 : l = 88
  · rw [if_pos l88]; exact { ho with ts := h.ts, vb := h.vb }
  rw [if_neg l88]
  by_cases l69 : l = 69
  · rw [if_pos l69]; exact { ho with br := ho.br }
  rw [if_neg l69]
  by_cases l68 : l = 68
  · rw [if_pos l68]; exact { ho with d := h.d, dl := h.dl, dm := h.dm, dn := h.dn }
  rw [if_neg l68]
  exact ho
theorem zeroOk (w : World) (B : Nat) (k : Int) : MsOk w B (Ms.zero k) := ⟨CmOk.zero, TxOk.zero, Rd.nil, Nat.le_refl _, by simp [Ms.zero, maxLen], fun _ => ⟨rfl, rfl⟩, by simp [Ms.zero], by simp [Ms.zero], by simp [Ms.zero], by simp [Ms.zero], by simp [Ms.zero], by simp [Ms.zero], by simp [Ms.zero]⟩
theorem onlyOk {w : World} {B : Nat} {m : Ms} (h : MsOk w B m) : MsOk w B m.only := by
  unfold Ms.only
  generalize fieldsOf m.kd = l
  have : ∀ o, MsOk w B o → MsOk w B (l.foldl (fun o c => m.put o c.toNat) o) := by
    induction l with
    | nil => exact fun o ho => ho
    | cons c t ih => exact fun o ho => ih _ (putOk h ho _)
  exact this _ (zeroOk w B _)
theorem has_any (c : UInt8) (fs : List UInt8) (gf : Nat) (z : World) (hz : z.heap[gf]? = some (.cells [.string ⟨fs.toArray⟩].toArray 9 (0, 0))) :
    Calls Tryd.prog 42 #[.string ⟨#[c]⟩, .pointer (some ⟨gf, 0, none⟩)] z fun e w' => e = .returned (.bool (decide (c ∈ fs))) ∧ z = w' := by
  have c0 := rowCell hz 0 (v := .string ⟨fs.toArray⟩) rfl
  have HC := Lib.hid (sContains ⟨fs.toArray⟩ c z)
  rw [show decide (0 ≤ Lib.indexByte (⟨fs.toArray⟩ : ByteArray).data.toList c) = decide (c ∈ fs) from indexByte_mem fs c] at HC
  generalize decide (c ∈ fs) = d at HC ⊢
  clear hz
  go_enter Tryd.func42, Tryd.ntmps42
  go_wp2_with (go_at_call 43; refine HC.out.mono ?_; rintro e w' ⟨rfl, rfl⟩)
  go_ret
  exact ⟨rfl, rfl⟩
end Go.Proofs.YtjofjpmhokjhnaaDoor
