/- message.Formed. Conditions: what lies, lies below. (Printed by gen_msg.py.) -/
import Derived.Test.YtjofjpmhokjhnaaDoorMsgF
import Derived.Test.YtjofjpmhokjhnaaDoorMsgL
import Derived.Test.YtjofjpmhokjhnaaDoorTxnF
import Derived.Deep.QuietTactic
namespace Go.Proofs.YtjofjpmhokjhnaaDoor
set_option maxRecDepth 20000
open Go.RowKit T
set_option linter.unusedSimpArgs false
set_option linter.unusedVariables false

namespace T
/-- the first half of Formed: what is used, and the bounds -/
def Ms.fit (m : Ms) : Bool := !decide (fieldsOf m.kd = []) && m.only.same m && !decide (m.sl < 0) && !decide (1000000 < m.sl) && !decide (m.nu < 0) && !decide (2147483647 < m.nu) && !decide (m.g < 0) && !decide (4 ≤ m.g) && !decide (m.er < 0) && !decide (11 < m.er) && !decide (59900 < (m.dt.length : Int))
/-- the second half: the parts -/
def Ms.sound (m : Ms) : Bool := !(decide ((66 : UInt8) ∈ fieldsOf m.kd) && !B.formed m.bn) && !(m.ha && !B.formed m.vn) && !((decide ((67 : UInt8) ∈ fieldsOf m.kd) || m.ha) && !m.c.formed) && !(decide ((84 : UInt8) ∈ fieldsOf m.kd) && !T.formed m.t.s m.t.q m.t.rs m.t.ws) && !(decide ((73 : UInt8) ∈ fieldsOf m.kd) && !T.idb m.ii m.ij) && V.formed m.vk m.vb m.vt.data.toList && !(decide ((75 : UInt8) ∈ fieldsOf m.kd) && !V.key m.ky.data.toList && (!decide (m.ky.data.toList = []) || !decide (m.kd = 13)))
def Ms.formed (m : Ms) : Bool := m.fit && m.sound
end T
theorem putOk {w : World} {B : Nat} {m o : Ms} (h : MsOk w B m) (ho : MsOk w B o) (l : Nat) : MsOk w B (m.put o l) := by
  unfold Ms.put
  by_cases l66 : l = 66
  · rw [if_pos l66]; exact { ho with br := h.br }
  rw [if_neg l66]
  by_cases l83 : l = 83
  · rw [if_pos l83]; exact { ho with br := ho.br }
  rw [if_neg l83]
  by_cases l72 : l = 72
  · rw [if_pos l72]
    cases hb : m.ha with
    | true => rw [if_pos rfl]; exact { ho with c := h.c, vr := h.vr }
    | false => rw [if_neg (by decide)]; exact { ho with br := ho.br }
  rw [if_neg l72]
  by_cases l67 : l = 67
  · rw [if_pos l67]; exact { ho with c := h.c }
  rw [if_neg l67]
  by_cases l84 : l = 84
  · rw [if_pos l84]; exact { ho with t := h.t }
  rw [if_neg l84]
  by_cases l73 : l = 73
  · rw [if_pos l73]; exact { ho with br := ho.br }
  rw [if_neg l73]
  by_cases l71 : l = 71
  · rw [if_pos l71]; exact { ho with br := ho.br }
  rw [if_neg l71]
  by_cases l80 : l = 80
  · rw [if_pos l80]; exact { ho with st := h.st }
  rw [if_neg l80]
  by_cases l89 : l = 89
  · rw [if_pos l89]; exact { ho with br := ho.br }
  rw [if_neg l89]
  by_cases l78 : l = 78
  · rw [if_pos l78]; exact { ho with br := ho.br }
  rw [if_neg l78]
  by_cases l75 : l = 75
  · rw [if_pos l75]; exact { ho with ks := h.ks }
  rw [if_neg l75]
  by_cases l86 : l = 86
  · rw [if_pos l86]; exact { ho with ve := h.ve }
  rw [if_neg l86]
  by_cases l88 : l = 88
  · rw [if_pos l88]; exact { ho with ts := h.ts, vb := h.vb }
  rw [if_neg l88]
  by_cases l69 : l = 69
  · rw [if_pos l69]; exact { ho with br := ho.br }
  rw [if_neg l69]
  by_cases l68 : l = 68
  · rw [if_pos l68]; exact { ho with d := h.d, dl := h.dl, dm := h.dm, dn := h.dn }
  rw [if_neg l68]
  exact ho
theorem zeroOk (w : World) (B : Nat) (k : Int) : MsOk w B (Ms.zero k) := ⟨CmOk.zero, TxOk.zero, Rd.nil, Nat.le_refl _, by simp [Ms.zero, maxLen], fun _ => ⟨rfl, rfl⟩, by simp [Ms.zero], by simp [Ms.zero], by simp [Ms.zero], by simp [Ms.zero], by simp [Ms.zero], by simp [Ms.zero], by simp [Ms.zero]⟩
theorem onlyOk {w : World} {B : Nat} {m : Ms} (h : MsOk w B m) : MsOk w B m.only := by
  unfold Ms.only
  generalize fieldsOf m.kd = l
  have : ∀ o, MsOk w B o → MsOk w B (l.foldl (fun o c => m.put o c.toNat) o) := by
    induction l with
    | nil => exact fun o ho => ho
    | cons c t ih => exact fun o ho => ih _ (putOk h ho _)
  exact this _ (zeroOk w B _)
theorem has_any (c : UInt8) (fs : List UInt8) (gf : Nat) (z : World) (hz : z.heap[gf]? = some (.cells [.string ⟨fs.toArray⟩].toArray 9 (0, 0))) :
    Calls Tryd.prog 42 #[.string ⟨#[c]⟩, .pointer (some ⟨gf, 0, none⟩)] z fun e w' => e = .returned (.bool (decide (c ∈ fs))) ∧ z = w' := by
  have c0 := rowCell hz 0 (v := .string ⟨fs.toArray⟩) rfl
  have HC := Lib.hid (sContains ⟨fs.toArray⟩ c z)
  rw [show decide (0 ≤ Lib.indexByte (⟨fs.toArray⟩ : ByteArray).data.toList c) = decide (c ∈ fs) from indexByte_mem fs c] at HC
  generalize decide (c ∈ fs) = d at HC ⊢
  clear hz
  go_enter Tryd.func42, Tryd.ntmps42
  go_wp2_with (go_at_call 43; refine HC.out.mono ?_; rintro e w' ⟨rfl, rfl⟩)
  go_ret
  exact ⟨rfl, rfl⟩
end Go.Proofs.YtjofjpmhokjhnaaDoor
