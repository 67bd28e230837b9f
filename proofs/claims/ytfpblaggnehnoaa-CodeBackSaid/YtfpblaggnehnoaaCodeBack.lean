/- The walk of the law CodeBack. -/
import Derived.Test.YtfpblaggnehnoaaCodeOrder
import Derived.Test.YtfpblaggnehnoaaArgs
import Derived.Deep.RegionHeld3
import Derived.Deep.LoopGhost
namespace Go.Proofs.Ytfpblaggnehnoaa
open Go.RowKit
set_option linter.unusedSimpArgs false
set_option linter.unusedVariables false

/-- a field that is put -/
structure Fld where
  text : Bool
  x : Nat
  n : Int
  s : ByteArray

/-- the fields of a slice that came in, cell by cell -/
def FldsAt (w : World) (B : Nat) (A : Option Addr) (fl : List Fld) : Prop :=
  ∀ i f, fl[i]? = some f → ∃ b off, A = some ⟨b, off, none⟩ ∧ b < B ∧ w.cell? ⟨b, off + i * 4, none⟩ = some (.bool f.text) ∧ w.cell? ⟨b, off + i * 4 + 1, none⟩ = some (.int .u64 (f.x : Int)) ∧
    w.cell? ⟨b, off + i * 4 + 2, none⟩ = some (.int .i64 f.n) ∧ w.cell? ⟨b, off + i * 4 + 3, none⟩ = some (.string f.s) ∧ f.x < 18446744073709551616 ∧ f.s.size ≤ 9223372036854775807
theorem FldsAt.below {w w' : World} {B : Nat} {A : Option Addr} {fl : List Fld} (h : FldsAt w B A fl) (hb : Below B w w') : FldsAt w' B A fl := fun i f hf => by
  obtain ⟨b, off, hA, hB, h0, h1, h2, h3, h4⟩ := h i f hf
  exact ⟨b, off, hA, hB, (hb.cell hB).trans h0, (hb.cell hB).trans h1, (hb.cell hB).trans h2, (hb.cell hB).trans h3, h4⟩

theorem cells65 : Try.prog.cellsOf 65 = 4 := by kernel_rfl
theorem cells4 : Try.prog.cellsOf 4 = 1 := by kernel_rfl
theorem cells43 : Try.prog.cellsOf 43 = 1 := by kernel_rfl
theorem cells3 : Try.prog.cellsOf 3 = 1 := by kernel_rfl
theorem cells9 : Try.prog.cellsOf 9 = 1 := by kernel_rfl

theorem Cel.fld {W : World} {cs : List Value} (h : Cel W 65 cs) : ∃ f : Fld, cs = [.bool f.text, .int .u64 (f.x : Int), .int .i64 f.n, .string f.s] ∧ f.x < 18446744073709551616 ∧ f.s.size ≤ 9223372036854775807 := by
  have hl := h.len Try.underlying65
  rw [cells65] at hl
  match cs, hl with
  | [a, b, c, d], _ =>
    obtain ⟨x0, e0⟩ := (h.field1 Try.underlying65 0 0 4 _ rfl rfl rfl cells4 a rfl).bool Try.underlying4
    obtain ⟨x1, e1, hx1⟩ := (h.field1 Try.underlying65 1 1 43 _ rfl rfl rfl cells43 b rfl).u64 Try.underlying43
    obtain ⟨x2, e2, _⟩ := (h.field1 Try.underlying65 2 2 3 _ rfl rfl rfl cells3 c rfl).i64 Try.underlying3
    obtain ⟨x3, e3, hx3⟩ := (h.field1 Try.underlying65 3 3 9 _ rfl rfl rfl cells9 d rfl).string Try.underlying9
    simp at e0 e1 e2 e3
    subst e0; subst e1; subst e2; subst e3
    exact ⟨⟨x0, x1, x2, x3⟩, rfl, hx1, hx3⟩

theorem Arg.flds {W : World} {v : Value} (h : Arg W 63 v) : ∃ (A : Option Addr) (c : Nat) (fl : List Fld), v = .slice A fl.length c ∧ fl.length ≤ c ∧ c ≤ maxLen ∧ FldsAt W W.heap.size A fl := by
  obtain ⟨A, n, c, rfl, hc⟩ := h.slice Try.underlying63
  obtain ⟨hn, hm, hA, hat⟩ := hc.sliceAt Try.underlying63 4 cells65 (by omega)
  by_cases h0 : 0 < n
  · obtain ⟨b, off, rfl, hb, hi⟩ := hat h0
    have hex : ∀ i, ∃ f : Fld, i < n → (W.cell? ⟨b, off + i * 4, none⟩ = some (.bool f.text) ∧ W.cell? ⟨b, off + i * 4 + 1, none⟩ = some (.int .u64 (f.x : Int)) ∧ W.cell? ⟨b, off + i * 4 + 2, none⟩ = some (.int .i64 f.n) ∧ W.cell? ⟨b, off + i * 4 + 3, none⟩ = some (.string f.s) ∧ f.x < 18446744073709551616 ∧ f.s.size ≤ 9223372036854775807) := by
      intro i
      by_cases hlt : i < n
      · obtain ⟨cs', _, hce, hj⟩ := hi i hlt
        obtain ⟨f, rfl, hf⟩ := hce.fld
        exact ⟨f, fun _ => ⟨hj 0 (by omega), hj 1 (by omega), hj 2 (by omega), hj 3 (by omega), hf⟩⟩
      · exact ⟨⟨false, 0, 0, ⟨#[]⟩⟩, fun h => absurd h hlt⟩
    refine ⟨some ⟨b, off, none⟩, c, (List.range n).map fun i => (hex i).choose, by simp, by simpa using hn, hm, fun i f hf => ?_⟩
    have hlt : i < n := by have := (List.getElem?_eq_some_iff.1 hf).1; simpa using this
    have hfe : f = (hex i).choose := by simpa [hlt] using hf.symm
    subst hfe
    exact ⟨b, off, rfl, hb, (hex i).choose_spec hlt⟩
  · obtain rfl : n = 0 := by omega
    exact ⟨A, c, [], rfl, by simp, hm, fun i f hf => by simp at hf⟩

/-! ### the plain law -/
def Fld.bytes (f : Fld) : List UInt8 := if f.text = true then C.be f.s.size 2 ++ f.s.data.toList else C.be f.x (C.clamp8 f.n)
def encs (fl : List Fld) : List UInt8 := fl.flatMap Fld.bytes
theorem encs_take (fl : List Fld) (k : Nat) (h : k < fl.length) : encs (fl.take (k + 1)) = encs (fl.take k) ++ (fl[k]).bytes := by
  rw [List.take_succ_eq_append_getElem h, encs, encs, List.flatMap_append]; simp only [List.flatMap_cons, List.flatMap_nil, List.append_nil]
theorem encs_drop (fl : List Fld) (k : Nat) (h : k < fl.length) : encs (fl.drop k) = (fl[k]).bytes ++ encs (fl.drop (k + 1)) := by
  rw [List.drop_eq_getElem_cons h, encs, encs, List.flatMap_cons]
theorem bytes_len (f : Fld) (h : f.s.size ≤ 1000) : f.bytes.length ≤ 1002 := by
  unfold Fld.bytes
  split
  · simp only [List.length_append, C.be_len, list_size]; omega
  · rw [C.be_len]; have := C.clamp8_le f.n; omega

theorem some_app (k : Nat) (a r : List UInt8) (h : a.length = k) : C.some_ k (a ++ r, false) = (a, (r, false)) := by
  unfold C.some_
  rw [if_neg (by simp; omega)]
  simp [h]
theorem take_app (k : Nat) (x : Nat) (r : List UInt8) (h : k ≤ 8) : C.take (k : Int) (C.be x k ++ r, false) = (x % 256 ^ k, (r, false)) := by
  unfold C.take
  rw [if_neg (by omega), Int.toNat_natCast, some_app k _ _ (C.be_len x k), C.val_be]
theorem text_app (most : Int) (s : List UInt8) (r : List UInt8) (h : s.length < 65536) (hm : (s.length : Int) ≤ most) : C.text most (C.be s.length 2 ++ s ++ r, false) = (s, (r, false)) := by
  unfold C.text
  rw [List.append_assoc, show (2 : Int) = ((2 : Nat) : Int) from rfl, take_app 2 s.length (s ++ r) (by omega)]
  rw [show s.length % 256 ^ 2 = s.length from Nat.mod_eq_of_lt (by omega)]
  simp only [show decide (most < (s.length : Int)) = false from by simp; omega, Bool.or_false]
  exact some_app _ _ _ rfl


theorem str_back (s : ByteArray) : (⟨s.data.toList.toArray⟩ : ByteArray) = s := by simp
theorem text_back (B g : Nat) (s : ByteArray) (r : List UInt8) (w : World) (hs : s.size ≤ 1000) (h : RdrAt w B g (C.be s.size 2 ++ s.data.toList ++ r, false)) :
    Calls Try.prog 48 #[.pointer (some ⟨g, 0, none⟩), .int .i64 1000] w fun e w' => e = .returned (.string s) ∧ RdrAt w' B g (r, false) ∧ w.grownBy w' (some g) := by
  have h1 := text_any B g 1000 _ w h
  have h2 := text_app 1000 s.data.toList r (by rw [list_size]; omega) (by rw [list_size]; omega)
  rw [list_size] at h2
  rw [h2] at h1
  exact h1.mono fun e w' ⟨he, hr, hg⟩ => ⟨he.trans (congrArg (fun z => Ending.returned (Value.string z)) (str_back s)), hr, hg⟩
theorem take_back (B g q x y : Nat) (r : List UInt8) (w : World) (hq : q ≤ 8) (hy : y = x % 256 ^ q) (h : RdrAt w B g (C.be x q ++ r, false)) :
    Calls Try.prog 49 #[.pointer (some ⟨g, 0, none⟩), .int .i64 (q : Int)] w fun e w' => e = .returned (.int .u64 (y : Int)) ∧ RdrAt w' B g (r, false) ∧ w.grownBy w' (some g) := by
  have h1 := take_any B g (q : Int) _ w h
  rw [take_app q x r hq, ← hy] at h1
  exact h1

/-! ### the walk -/
set_option maxHeartbeats 6400000 in
theorem back_mid (A : Option Addr) (c : Nat) (fl : List Fld) (w : World) (hc : fl.length ≤ c) (hm : c ≤ maxLen) (hf : FldsAt w w.heap.size A fl) :
    Calls Try.prog 13 #[.slice A fl.length c] w fun e w' => e = .returned (.bool true) ∧ Below w.heap.size w w' := by
  obtain ⟨n, hn⟩ : ∃ n, n = fl.length := ⟨_, rfl⟩
  have HN := Lib.hid hn
  rw [← hn] at hc ⊢
  clear hn
  unfold maxLen at hm
  by_cases hl : 50 < n
  · go_enter Try.func13, Try.ntmps13
    go_wp2_with fail
    refine (c_awake _).mono ?_
    rintro e w1 ⟨rfl, hb1⟩
    go_wp2_with fail
    refine (c_awake _).mono ?_
    rintro e w2 ⟨rfl, hb2⟩
    go_wp2_with fail
    go_ret
    exact ⟨rfl, hb1.trans (hb2.mono hb1.size)⟩
  · have hn50 : n ≤ 50 := by omega
    go_enter Try.func13, Try.ntmps13
    go_wp2_with fail
    refine (c_awake _).mono ?_
    rintro e w1 ⟨rfl, hb1⟩
    go_wp2_with fail
    go_loopw [3, 4] (fun v i wr => ∃ k : Nat, k ≤ n ∧ i = .int .i64 (k : Int) ∧ wr.ownsRow w.heap.size 5 1 v (encs (fl.take k)).length (bc (encs (fl.take k))) ∧ (encs (fl.take k)).length ≤ 1002 * k ∧ (∀ f ∈ fl.take k, f.s.size ≤ 1000) ∧ Below w.heap.size w wr) (fun _ i _ => n - (intOf i).toNat)
    case atStart => exact ⟨0, Nat.zero_le _, rfl, World.ownsRow_nil _ _ _ _, by simp [encs], by simp, hb1⟩
    case round =>
      obtain ⟨k, hk, rfl, hown, hlen, hall, hbel⟩ := hrel
      by_cases hlt : k < n
      · have hkl : k < fl.length := by rw [← HN.out]; exact hlt
        obtain ⟨b, off, rfl, hb, c0, c1, c2, c3, hx, hs⟩ := (hf.below hbel) k _ (List.getElem?_eq_getElem hkl)
        have HT := Lib.hid (encs_take fl k hkl)
        have HBL := Lib.hid (bytes_len fl[k])
        have HM : Hid (fl[k].s.size ≤ 1000 → ∀ f ∈ fl.take (k + 1), f.s.size ≤ 1000) := fun h0 f hf => by
          rw [List.take_succ_eq_append_getElem hkl, List.mem_append, List.mem_singleton] at hf
          rcases hf with hf | hf
          · exact hall f hf
          · rw [hf]; exact h0
        generalize fl[k] = f at *
        obtain ⟨tx, x, fn, s⟩ := f
        simp only at c0 c1 c2 c3 hx hs
        obtain ⟨A3, cc, rfl, hcc, hA3, _⟩ := ownShape hown
        have hA3' : A3 = none → encs (fl.take k) = [] ∧ cc = 0 := fun h => ⟨List.eq_nil_of_length_eq_zero (hA3 h).1, (hA3 h).2⟩
        have hrd := Rd.ofOwn hown
        have HL := Lib.hid hlen
        have hlen2 : (encs (fl.take k)).length ≤ 60000 := by omega
        clear hall hcc hA3
        by_cases hbig : 1000 < s.size
        · go_wp2_with fail
          go_ret
          exact ⟨rfl, hbel⟩
        · cases tx with
          | true =>
            go_wp2_with fail
            refine (puttext_any A3 cc _ s wr wr.heap.size (by omega) hA3' hrd (Nat.le_refl _) hs).mono ?_
            rintro e w2 ⟨v2, rfl, hown2, hb2⟩
            have hnew : C.putText (encs (fl.take k)) s.data.toList = encs (fl.take (k + 1)) := by
              rw [HT.out]
              have h1 : min s.data.toList.length 65535 = s.size := by rw [list_size]; omega
              have h2 : s.data.toList.take s.size = s.data.toList := List.take_of_length_le (by rw [list_size]; exact Nat.le_refl _)
              unfold C.putText Fld.bytes
              rw [h1, h2, if_pos rfl, List.append_assoc]
            have hlen3 : (encs (fl.take (k + 1))).length ≤ 1002 * (k + 1) := by
              have h1 := HBL.out (by show s.size ≤ 1000; omega)
              have h2 := HL.out
              rw [HT.out, List.length_append]; omega
            rw [hnew] at hown2
            have HH := Lib.hid hlen3
            have HO := Lib.hid (ownMore hown2 hbel.size)
            have hb3 := hbel.trans (hb2.mono hbel.size)
            clear hown2 hnew hlen3 hown hrd
            go_wp2_with fail
            go_roundw
            case rel => exact ⟨k + 1, by omega, by go_num, HO.out, HH.out, HM.out (by show s.size ≤ 1000; omega), hb3⟩
            case measure => simp [intOf]; omega
          | false =>
            go_wp2_with fail
            go_region_held3 (fun w' => w'.cell? ⟨b, off + k * 4 + 1, none⟩ = some (.int .u64 (x : Int)) ∧ w'.cell? ⟨b, off + k * 4 + 2, none⟩ = some (.int .i64 fn)) (first | exact ⟨c1, c2⟩ | exact ⟨c1b, c2b⟩) (first | (go_at_call 27; refine (put_any A3 cc _ x fn _ wr.heap.size (by omega) hA3' (by exact hrd) (by exact Nat.le_refl _) hx).mono ?_; rintro e w2 ⟨v2, rfl, hown2, hb2⟩; have c1b : w2.cell? ⟨b, off + k * 4 + 1, none⟩ = some (.int .u64 (x : Int)) := (hb2.cell (by have := hbel.size; simp; omega)).trans c1; have c2b : w2.cell? ⟨b, off + k * 4 + 2, none⟩ = some (.int .i64 fn) := (hb2.cell (by have := hbel.size; simp; omega)).trans c2))
            have hnew : C.put (encs (fl.take k)) x fn = encs (fl.take (k + 1)) := by rw [HT.out]; rfl
            have hlen3 : (encs (fl.take (k + 1))).length ≤ 1002 * (k + 1) := by
              have h1 := HBL.out (by show s.size ≤ 1000; omega)
              have h2 := HL.out
              rw [HT.out, List.length_append]; omega
            rw [hnew] at hown2
            have HH := Lib.hid hlen3
            have HO := Lib.hid (ownMore hown2 hbel.size)
            have hb3 := hbel.trans ((belowOfDrew hb2).mono hbel.size)
            clear hown2 hnew hlen3 hown hrd
            go_wp2_with fail
            go_roundw
            case rel => exact ⟨k + 1, by omega, by go_num, HO.out, HH.out, HM.out (by show s.size ≤ 1000; omega), hb3⟩
            case measure => simp [intOf]; omega
      · obtain rfl : k = n := by omega
        have hall2 : ∀ f ∈ fl, f.s.size ≤ 1000 := by
          intro f hf'
          exact hall f (by rw [HN.out, List.take_length]; exact hf')
        have htk : fl.take k = fl := by rw [HN.out]; exact List.take_length
        rw [htk] at hown hlen
        obtain ⟨A3, cc, rfl, hcc, hA3, hcm⟩ := ownShape hown
        have hA3' : A3 = none → encs fl = [] ∧ cc = 0 := fun h => ⟨List.eq_nil_of_length_eq_zero (hA3 h).1, (hA3 h).2⟩
        have HA := Lib.hid hall2
        have hrd := Rd.ofOwn hown
        clear hall hall2 htk hA3 hown
        go_wp2_with fail
        refine (new_any A3 cc (encs fl) wr wr.heap.size hcc hcm hA3' hrd (Nat.le_refl _)).mono ?_
        rintro e w2 ⟨rfl, hR, hb2⟩
        obtain ⟨g, hg⟩ : ∃ g, g = wr.heap.size := ⟨_, rfl⟩
        have hgs : w.heap.size ≤ g := by rw [hg]; exact hbel.size
        rw [← hg] at hR ⊢
        have hbel2 : Below w.heap.size w w2 := hbel.trans (hb2.mono hbel.size)
        have hRd := Lib.hid hR
        clear hb2 hbel hrd hg hR
        go_wp2_with fail
        go_loopw [6] (fun i wr => ∃ j : Nat, j ≤ k ∧ i = .int .i64 (j : Int) ∧ Hid (RdrAt wr g g (encs (fl.drop j), false)) ∧ Below w.heap.size w wr) (fun i _ => k - (intOf i).toNat)
        case atStart => exact ⟨0, Nat.zero_le _, rfl, hRd, hbel2⟩
        case round =>
          obtain ⟨j, hj, rfl, HR, hbq⟩ := hrel
          by_cases hlt : j < k
          · have hkl : j < fl.length := by rw [← HN.out]; exact hlt
            obtain ⟨b, off, rfl, hb, c0, c1, c2, c3, hx, hs⟩ := (hf.below hbq) j _ (List.getElem?_eq_getElem hkl)
            have HT := Lib.hid (encs_drop fl j hkl)
            have HS := Lib.hid (HA.out fl[j] (List.getElem_mem hkl))
            generalize fl[j] = f at *
            obtain ⟨tx, x, fn, s⟩ := f
            simp only at c0 c1 c2 c3 hx hs HS
            cases tx with
            | true =>
              have hR2 : RdrAt wr g g (C.be s.size 2 ++ s.data.toList ++ encs (fl.drop (j + 1)), false) := by
                have := HR.out
                rw [HT.out] at this
                exact this
              have HR2 := Lib.hid hR2
              clear hR2 HR
              go_wp2_with fail
              go_region_held3 (fun w' => w'.cell? ⟨b, off + j * 4 + 3, none⟩ = some (.string s)) (first | exact c3 | exact c3b) (first | (go_at_call 48; refine (text_back g g s _ _ HS.out (by exact HR2.out)).mono ?_; rintro e w3 ⟨rfl, hR3, hg3⟩; have c3b : w3.cell? ⟨b, off + j * 4 + 3, none⟩ = some (.string s) := (World.cell?_of_block (hg3.block b (by have := hbq.size; simp; omega) (by simp; omega))).trans c3))
              have hbq3 : Below w.heap.size w w3 := hbq.trans (belowOfDrew ((Below.refl _ _).grown hg3 (by have := hbq.size; simp; omega) (fun q hq => by injection hq with hq; omega)))
              have HR3 := Lib.hid hR3
              clear hR3 hg3 hbq c3b
              go_wp2_with fail
              go_roundw
              case rel => exact ⟨j + 1, by omega, by go_num, HR3, hbq3⟩
              case measure => simp [intOf]; omega
            | false =>
              have hR2 : ∀ q, q = C.clamp8 fn → RdrAt wr g g (C.be x q ++ encs (fl.drop (j + 1)), false) := by
                intro q hq
                have := HR.out
                rw [HT.out] at this
                rw [hq]
                exact this
              clear HR
              rcases (by omega : fn < 0 ∨ (0 ≤ fn ∧ fn < 8) ∨ fn = 8 ∨ 8 < fn) with h | ⟨h0, h8⟩ | h | h
              · have HR2 := Lib.hid (hR2 0 (by unfold C.clamp8; omega))
                have HY : Hid (0 = x % 256 ^ 0) := by show _ = _; simp [Nat.mod_one]
                clear hR2
                go_wp2_with fail
                refine (take_back g g 0 x 0 _ _ (by omega) HY.out HR2.out).mono ?_
                rintro e w3 ⟨rfl, hR3, hg3⟩
                have hbq3 : Below w.heap.size w w3 := hbq.trans ((Below.refl _ _).grown hg3 (by have := hbq.size; omega) (fun q hq => by injection hq with hq; omega))
                have HR3 := Lib.hid hR3
                clear hR3 hg3 hbq
                go_wp2_with fail
                go_roundw
                case rel => exact ⟨j + 1, by omega, by go_num, HR3, hbq3⟩
                case measure => simp [intOf]; omega
              · obtain ⟨q, rfl⟩ := Int.eq_ofNat_of_zero_le h0
                have hq7 : q < 8 := by omega
                have HR2 := Lib.hid (hR2 q (by unfold C.clamp8; omega))
                have hp : (2 ^ (8 * q) : Nat) < 18446744073709551616 := by
                  have : (2 ^ (8 * q) : Nat) < 2 ^ 64 := Nat.pow_lt_pow_right (by omega) (by omega)
                  omega
                have hp0 : 0 < (2 ^ (8 * q) : Nat) := Nat.pow_pos (by omega)
                obtain ⟨D, hD⟩ : ∃ D : Nat, D = 2 ^ (8 * q) := ⟨_, rfl⟩
                have ed : IntKind.u64.wrap (2 ^ (8 * q)) = (D : Int) := by
                  rw [hD, show ((2 : Int) ^ (8 * q)) = ((2 ^ (8 * q) : Nat) : Int) from by simp, IntKind.wrap_u64]; omega
                have HD : Hid (D = 256 ^ q) := by show _ = _; rw [hD, Nat.pow_mul]
                rw [← hD] at hp hp0
                clear hD hR2
                obtain ⟨y, hy⟩ : ∃ y : Nat, y = x % D := ⟨_, rfl⟩
                have hyi : ((x : Int) % (D : Int)) = (y : Int) := by rw [hy]; simp
                have HY : Hid (y = x % 256 ^ q) := by show _ = _; rw [hy, HD.out]
                have HYI := Lib.hid hyi
                clear hy hyi
                go_wp2_with fail
                rw [HYI.out]
                refine (take_back g g q x y _ _ (by omega) HY.out HR2.out).mono ?_
                rintro e w3 ⟨rfl, hR3, hg3⟩
                have hbq3 : Below w.heap.size w w3 := hbq.trans ((Below.refl _ _).grown hg3 (by have := hbq.size; omega) (fun q hq => by injection hq with hq; omega))
                have HR3 := Lib.hid hR3
                clear hR3 hg3 hbq
                go_wp2_with fail
                go_roundw
                case rel => exact ⟨j + 1, by omega, by go_num, HR3, hbq3⟩
                case measure => simp [intOf]; omega
              · have HR2 := Lib.hid (hR2 8 (by unfold C.clamp8; omega))
                have HY : Hid (x = x % 256 ^ 8) := by show _ = _; exact (Nat.mod_eq_of_lt (by omega)).symm
                clear hR2
                subst h
                go_wp2_with fail
                refine (take_back g g 8 x x _ _ (by omega) HY.out HR2.out).mono ?_
                rintro e w3 ⟨rfl, hR3, hg3⟩
                have hbq3 : Below w.heap.size w w3 := hbq.trans ((Below.refl _ _).grown hg3 (by have := hbq.size; omega) (fun q hq => by injection hq with hq; omega))
                have HR3 := Lib.hid hR3
                clear hR3 hg3 hbq
                go_wp2_with fail
                go_roundw
                case rel => exact ⟨j + 1, by omega, by go_num, HR3, hbq3⟩
                case measure => simp [intOf]; omega
              · have HR2 := Lib.hid (hR2 8 (by unfold C.clamp8; omega))
                have HY : Hid (x = x % 256 ^ 8) := by show _ = _; exact (Nat.mod_eq_of_lt (by omega)).symm
                clear hR2
                go_wp2_with fail
                refine (take_back g g 8 x x _ _ (by omega) HY.out HR2.out).mono ?_
                rintro e w3 ⟨rfl, hR3, hg3⟩
                have hbq3 : Below w.heap.size w w3 := hbq.trans ((Below.refl _ _).grown hg3 (by have := hbq.size; omega) (fun q hq => by injection hq with hq; omega))
                have HR3 := Lib.hid hR3
                clear hR3 hg3 hbq
                go_wp2_with fail
                go_roundw
                case rel => exact ⟨j + 1, by omega, by go_num, HR3, hbq3⟩
                case measure => simp [intOf]; omega
          · obtain rfl : j = k := by omega
            have hR2 : RdrAt wr g g ([], false) := by
              have := HR.out
              rw [HN.out, List.drop_length] at this
              exact this
            go_wp2_with fail
            refine (end_any g g _ wr hR2).mono ?_
            rintro e w' ⟨rfl, rfl⟩
            go_wp2_with fail
            go_ret
            exact ⟨rfl, hbq⟩

theorem codeBack_walk (W : World) (v0 : Value) (h0 : Arg W 63 v0) :
    Calls Try.prog 13 #[v0] W fun e W' => e = .returned (.bool true) ∧ Below W.heap.size W W' := by
  obtain ⟨A, c, fl, rfl, hc, hm, hf⟩ := h0.flds
  exact back_mid A c fl W hc hm hf
end Go.Proofs.Ytfpblaggnehnoaa
