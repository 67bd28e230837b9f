import Derived.Test.YthclniimhpmeoaaGreatDoorMrM11
import Derived.Lib.Strings
import Derived.Lib.Slices
import Derived.Lib.Walk
import Derived.Lib.Bytealg
import Derived.Lib.Bytes
set_option maxHeartbeats 3200000
set_option maxRecDepth 20001
set_option linter.unusedSimpArgs false
set_option linter.unusedVariables false
namespace Go.Proofs.YthclniimhpmeoaaGreatDoor
set_option maxRecDepth 20000
section
open Go.RowKit T
theorem bequal_any (A : Option Addr) (c : Nat) (l : List UInt8) (A' : Option Addr) (c' : Nat) (l' : List UInt8) (B : Nat) (w : World) (h : Rd w B A (bc l)) (h' : Rd w B A' (bc l')) :
 Calls Tryz.prog 43 #[.slice A l.length c, .slice A' l'.length c'] w fun e w' => e = .returned (.bool (decide (l = l'))) ∧ w = w' := by
 have e1 := run_string_rd (P := Tryz.prog) w 34 5 9 Tryz.underlying34 Tryz.underlying5 Tryz.underlying9 B A c l h;have e2 := run_string_rd (P := Tryz.prog) w 34 5 9 Tryz.underlying34 Tryz.underlying5 Tryz.underlying9 B A' c' l' h'
 have e3 : (l == l') = decide (l = l') := by
  by_cases q : l = l'
  ·subst q; simp
  ·rw [decide_eq_false q]; simpa using q
 clear h h';generalize decide (l = l') = d at e3 ⊢
 go_enter Tryz.func43, Tryz.ntmps43
 go_wp2
 go_ret
 refine ⟨?_, rfl⟩;rw [← e3];rfl
theorem sIndexByte (s : ByteArray) (c : Int) (w : World) :
 Calls Tryz.prog 154 #[.string s, .int .u8 c] w fun e w' => e = .returned (.int .i64 (Lib.indexByte s.data.toList c.toNat.toUInt8)) ∧ w' = w := by
 go_enter Tryz.func154, Tryz.ntmps154
 go_wp2
 rw [run_callFunc_extern Tryz.func163 (by kernel_rfl) (by kernel_rfl) (by kernel_rfl) (e := Extern.BytealgIndexByte.indexByte) (by kernel_rfl), Lib.run_indexByteString];simp only [Result.andThen];rw [Oper.upon_value]
 go_wp2
 go_ret
 exact ⟨rfl, rfl⟩
theorem sliteIndex (s : ByteArray) (c : UInt8) (w : World) :
 Calls Tryz.prog 142 #[.string s, .string ⟨#[c]⟩] w fun e w' => e = .returned (.int .i64 (Lib.indexByte s.data.toList c)) ∧ w' = w := by
 go_enter Tryz.func142, Tryz.ntmps142
 go_wp2_with (go_at_call 154; refine (sIndexByte _ _ _).mono ?_; rintro e w' ⟨rfl, rfl⟩)
 ·have h : ([c] == s.toList) = true := by assumption
  go_ret
  refine ⟨?_, rfl⟩;(have e : s.data.toList = [c] := by rw [← Lib.toList_data]; exact (beq_iff_eq.1 h).symm);rw [e];simp [Lib.indexByte]
 ·go_ret
  exact ⟨rfl, rfl⟩
theorem sIndex (s : ByteArray) (c : UInt8) (w : World) :
 Calls Tryz.prog 130 #[.string s, .string ⟨#[c]⟩] w fun e w' => e = .returned (.int .i64 (Lib.indexByte s.data.toList c)) ∧ w' = w := by
 go_enter Tryz.func130, Tryz.ntmps130
 go_wp2_with (go_at_call 142; refine (sliteIndex _ _ _).mono ?_; rintro e w' ⟨rfl, rfl⟩)
 go_ret
 exact ⟨rfl, rfl⟩
theorem sContains (s : ByteArray) (c : UInt8) (w : World) :
 Calls Tryz.prog 107 #[.string s, .string ⟨#[c]⟩] w fun e w' => e = .returned (.bool (decide (0 ≤ Lib.indexByte s.data.toList c))) ∧ w' = w := by
 go_enter Tryz.func107, Tryz.ntmps107
 go_wp2_with (go_at_call 130; refine (sIndex _ _ _).mono ?_; rintro e w' ⟨rfl, rfl⟩)
 go_ret
 exact ⟨rfl, rfl⟩
theorem indexByte_mem (l : List UInt8) (c : UInt8) : decide (0 ≤ Lib.indexByte l c) = decide (c ∈ l) := by
 induction l with
 | nil => simp [Lib.indexByte]
 | cons b t ih =>
   have hg := Lib.indexByte_ge t c;unfold Lib.indexByte
   by_cases h : b = c
   ·subst h; simp
   ·(have h2 : (b == c) = false := by simpa using h);rw [h2];(have h3 : (c ∈ b :: t) ↔ c ∈ t := by simp [List.mem_cons, Ne.symm h]);rw [decide_eq_decide] at ih ⊢;rw [h3, ← ih]
    by_cases h4 : Lib.indexByte t c = -1
    ·simp [h4]
    ·(have h5 : (Lib.indexByte t c == -1) = false := by simpa using h4);simp only [Bool.false_eq_true, if_false, h5];omega
def SameT (x y : Tn) : Bool := decide (x.s = y.s ∧ x.q = y.q ∧ x.rs = y.rs ∧ x.ws = y.ws)
def T.Ms.same (a b : Ms) : Bool := (a.kd == b.kd) && (decide (a.br = b.br ∧ a.bn = b.bn)) && (a.sl == b.sl) && (a.ha == b.ha) && (decide (a.vr = b.vr ∧ a.vn = b.vn)) && (decide (a.ii = b.ii ∧ a.ij = b.ij)) && (a.g == b.g) && ((a.st : Int) == (b.st : Int)) && (a.ye == b.ye) && (a.nu == b.nu) && (a.ky.toList == b.ky.toList) && ((a.ve : Int) == (b.ve : Int)) && (decide (a.vk = b.vk ∧ a.vb = b.vb ∧ a.vt.toList = b.vt.toList)) && (a.er == b.er) && (SameC a.c b.c) && (SameT a.t b.t) && (decide (a.dt = b.dt))
end
section
open Go.RowKit T
theorem tid_any (s q : Int) (w : World) :
 Calls Tryz.prog 94 #[.agg #[.int .i64 s, .int .i64 q]] w fun e w' => e = .returned (.bool (idb s q)) ∧ Below w.heap.size w w' := by
 obtain ⟨p, hp⟩ : ∃ p : Bool, p = idb s q := ⟨_, rfl⟩;rw [← hp];have HP := Lib.hid hp;clear hp
 go_enter Tryz.func94, Tryz.ntmps94
 go_wp2
 all_goals
  go_ret
  refine ⟨ret_bool ?_, (Below.refl _ _).alloc (Nat.le_refl _) _⟩;rw [HP.out];unfold idb
  first | (simp [*]; done) | (simp [*]; intros; omega)
theorem rtid_any (s q : Int) (w : World) :
 Calls Tryz.prog 96 #[.agg #[.int .i64 s, .int .i64 q]] w fun e w' => e = .returned (.bool (idb s q)) ∧ Below w.heap.size w w' := by
 obtain ⟨p, hp⟩ : ∃ p : Bool, p = idb s q := ⟨_, rfl⟩;rw [← hp];have HP := Lib.hid hp;clear hp
 go_enter Tryz.func96, Tryz.ntmps96
 go_wp2
 all_goals
  go_ret
  refine ⟨ret_bool ?_, (Below.refl _ _).alloc (Nat.le_refl _) _⟩;rw [HP.out];unfold idb
  first | (simp [*]; done) | (simp [*]; intros; omega)
theorem cgroup_any (g : Int) (w : World) :
 Calls Tryz.prog 95 #[.int .i64 g] w fun e w' => e = .returned (.bool (decide (0 ≤ g ∧ g < 4))) ∧ w = w' := by
 obtain ⟨p, hp⟩ : ∃ p : Bool, p = decide (0 ≤ g ∧ g < 4) := ⟨_, rfl⟩;rw [← hp];have HP := Lib.hid hp;clear hp
 go_enter Tryz.func95, Tryz.ntmps95
 go_wp2
 all_goals
  go_ret
  refine ⟨ret_bool ?_, rfl⟩;rw [HP.out]
  first | (simp [*]; done) | (simp [*]; intros; omega)
def T.strs (l : List (List UInt8)) : List Value := l.map fun k => .string ⟨k.toArray⟩
theorem T.strs_len (l : List (List UInt8)) : (strs l).length = l.length := by simp [strs]
theorem T.strs_get (l : List (List UInt8)) (k : Nat) (h : k < (strs l).length) : (strs l)[k] = .string ⟨(l[k]'(by simpa [strs] using h)).toArray⟩ := by simp [strs]
theorem T.good_at (l : List (List UInt8)) (k : Nat) (h : k < l.length) : good l k = (V.key l[k] && (decide (k = 0) || Op.bytesLess (l[k-1]'(by omega)) l[k])) := by
 unfold good;rw [List.getElem?_eq_getElem h, List.getElem?_eq_getElem (by omega)];rfl
theorem rises_any (A : Option Addr) (c : Nat) (l : List (List UInt8)) (w : World) (B : Nat) (hc : l.length ≤ c) (hm : c ≤ maxLen) (hr : Rd w B A (strs l)) (hB : B ≤ w.heap.size) (ho : ∀ x ∈ l, x.length ≤ 9223372036854775807) :
 Calls Tryz.prog 122 #[.slice A l.length c] w fun e w' => e = .returned (.bool (rises l)) ∧ Below w.heap.size w w' := by
 obtain ⟨n, hn⟩ : ∃ n, n = l.length := ⟨_, rfl⟩;have HN := Lib.hid hn;rw [← hn] at hc ⊢;clear hn;unfold maxLen at hm;obtain ⟨p0, hp0⟩ : ∃ p0 : Bool, p0 = rises l := ⟨_, rfl⟩;have HP := Lib.hid hp0;rw [← hp0];clear hp0
 go_enter Tryz.func122, Tryz.ntmps122
 go_wp2_with fail
 go_loopw [3, 4, 7] (fun _ _ i wr => ∃ k : Nat, k ≤ n ∧ i = .int .i64 (k : Int) ∧ Hid (∀ j, j < k → good l j = true) ∧ Below w.heap.size w wr) (fun _ _ i _ => n - (intOf i).toNat)
 case atStart => exact ⟨0, Nat.zero_le _, rfl, fun j hj => absurd hj (Nat.not_lt_zero _), Below.refl _ _⟩
 case round =>
  obtain ⟨k, hk, rfl, HG, hbel⟩ := hrel
  by_cases hlt : k < n
  ·(have hkl : k < l.length := by rw [← HN.out]; exact hlt);have hG := Lib.hid (good_at l k hkl);obtain ⟨b, off, rfl, hb, c1⟩ := (hr.belowM hbel hB).at_ (k := k) (by rw [strs_len]; exact hkl);rw [strs_get] at c1;have hsz := ho l[k] (List.getElem_mem hkl);obtain ⟨s, hs⟩ : ∃ s : ByteArray, s = ⟨l[k].toArray⟩ := ⟨_, rfl⟩;rw [← hs] at c1;(have hsd : s.data.toList = l[k] := by rw [hs]);(have hss : s.size ≤ 9223372036854775807 := by rw [← str_size, hsd]; exact hsz);have HK := Lib.hid (fun z => key_any s z hss);rw [hsd] at HK;have HS := Lib.hid hsd;clear hs hsd hsz hss
   cases hkey : V.key l[k] with
   | false =>
     rw [hkey] at HK hG;(have hgf : good l k = false := by rw [hG.out]; rfl);have HR := Lib.hid (HP.out.trans (rises_false l k hkl hgf));clear hG HS hkey hgf
     go_wp2_with fail
     refine (HK.out _).mono ?_;rintro e w1 ⟨rfl, b1⟩
     go_wp2_with fail
     go_ret
     exact ⟨ret_bool HR.out.symm, hbel.trans (b1.mono hbel.size)⟩
   | true =>
     rw [hkey] at HK hG;clear hkey
     cases k with
     | zero =>
       have HG' : Hid (∀ j, j < 1 → good l j = true) := fun j hj => by
        (obtain rfl : j = 0 := by omega);rw [hG.out]; rfl
       have c1 : wr.cell? ⟨b, off, none⟩ = some (.string s) := c1;clear HG hG HS
       go_wp2_with fail
       refine (HK.out _).mono ?_;rintro e w1 ⟨rfl, b1⟩
       go_wp2_with fail
       go_roundw
       case rel => exact ⟨1, by omega, by go_num, HG', hbel.trans (b1.mono hbel.size)⟩
       case measure => first | (simp [intOf]; done) | (simp [intOf]; omega)
     | succ k =>
       (have hkl' : k < l.length := by omega);obtain ⟨b', off', hA', _, c2⟩ := (hr.belowM hbel hB).at_ (k := k) (by rw [strs_len]; exact hkl');rw [strs_get] at c2;obtain ⟨p, hp⟩ : ∃ p : ByteArray, p = ⟨l[k].toArray⟩ := ⟨_, rfl⟩;rw [← hp] at c2;(have hpd : p.data.toList = l[k] := by rw [hp]);injection hA' with hA';injection hA' with e1 e2;subst e1; subst e2
       have hG2 : Hid (good l (k + 1) = Op.bytesLess p.toList s.toList) := by
        show _ = _;rw [hG.out, Lib.toList_data, Lib.toList_data, HS.out, hpd];simp
       clear hG HS hp hpd;(have hlt2 : (k : Int) + 1 < (n : Int) := by omega)
       cases hless : Op.bytesLess p.toList s.toList with
       | false =>
         (have hgf : good l (k + 1) = false := by rw [hG2.out]; exact hless);have HR := Lib.hid (HP.out.trans (rises_false l (k + 1) hkl hgf));clear hG2 hgf
         go_wp2_with fail
         refine (HK.out _).mono ?_;rintro e w1 ⟨rfl, b1⟩;have c2 := cellB b1 c2
         go_wp2_with fail
         go_ret
         exact ⟨ret_bool HR.out.symm, hbel.trans (b1.mono hbel.size)⟩
       | true =>
         have HG' : Hid (∀ j, j < k + 1 + 1 → good l j = true) := fun j hj => by
          by_cases e : j = k + 1
          ·subst e; rw [hG2.out]; exact hless
          ·exact HG.out j (by omega)
         clear HG hG2
         go_wp2_with fail
         refine (HK.out _).mono ?_;rintro e w1 ⟨rfl, b1⟩;have c2 := cellB b1 c2
         go_wp2_with fail
         go_roundw
         case rel => exact ⟨k + 1 + 1, by omega, by go_num, HG', hbel.trans (b1.mono hbel.size)⟩
         case measure => simp [intOf]; omega
  ·(obtain rfl : k = n := by omega);have hrt : rises l = true := (rises_iff l).2 fun i hi => HG.out i (by rw [HN.out]; exact hi);have HR := Lib.hid (HP.out.trans hrt);clear HG hrt
   go_wp2_with fail
   go_ret
   exact ⟨ret_bool HR.out.symm, hbel⟩
theorem info_str : (Tryz.prog.info? 9).map (fun i => (i.zero, i.size, i.bytes)) = some (some (.string ByteArray.empty), 1, 16) := by kernel_rfl
def MadeS (w : World) (l : List (List UInt8)) (e : Ending) (w' : World) : Prop :=
 ∃ v, e = .returned v ∧ w'.ownsRow w.heap.size 9 1 v l.length (strs l) ∧ Below w.heap.size w w'
theorem T.strs_app (l m : List (List UInt8)) : strs (l ++ m) = strs l ++ strs m := by simp [strs]
theorem T.encR_map (rs : List Rd1) (k : Nat) (h : k < rs.length) : (rs.map encR)[k]'(by simpa using h) = [.string ⟨rs[k].1.toArray⟩, .int .u64 (rs[k].2 : Int)] := by simp [encR]
theorem T.encW_map (ws : List Wr1) (k : Nat) (h : k < ws.length) : (ws.map encW)[k]'(by simpa using h) = [.string ⟨ws[k].1.toArray⟩, .int .i64 ws[k].2.1, .int .u64 (ws[k].2.2.1 : Int), .string ⟨ws[k].2.2.2.toArray⟩] := by simp [encW]
theorem RowsAt.rd {w : World} {B : Nat} {A : Option Addr} {rs : List Rd1} (h : RowsAt w B A 2 (rs.map encR)) (k : Nat) (hk : k < rs.length) :
 ∃ b off, A = some ⟨b, off, none⟩ ∧ b < B ∧ w.cell? ⟨b, off + k * 2, none⟩ = some (.string ⟨rs[k].1.toArray⟩) ∧ w.cell? ⟨b, off + k * 2 + 1, none⟩ = some (.int .u64 (rs[k].2 : Int)) := by
 obtain ⟨b, off, hA, hb, hc⟩ := h.at_ (i := k) (by simpa using hk);rw [encR_map rs k hk] at hc;exact ⟨b, off, hA, hb, hc 0 _ rfl, hc 1 _ rfl⟩
theorem RowsAt.wr {w : World} {B : Nat} {A : Option Addr} {ws : List Wr1} (h : RowsAt w B A 4 (ws.map encW)) (k : Nat) (hk : k < ws.length) :
 ∃ b off, A = some ⟨b, off, none⟩ ∧ b < B ∧ w.cell? ⟨b, off + k * 4, none⟩ = some (.string ⟨ws[k].1.toArray⟩) ∧ w.cell? ⟨b, off + k * 4 + 1, none⟩ = some (.int .i64 ws[k].2.1) ∧
  w.cell? ⟨b, off + k * 4 + 2, none⟩ = some (.int .u64 (ws[k].2.2.1 : Int)) ∧ w.cell? ⟨b, off + k * 4 + 3, none⟩ = some (.string ⟨ws[k].2.2.2.toArray⟩) := by
 obtain ⟨b, off, hA, hb, hc⟩ := h.at_ (i := k) (by simpa using hk);rw [encW_map ws k hk] at hc;exact ⟨b, off, hA, hb, hc 0 _ rfl, hc 1 _ rfl, hc 2 _ rfl, hc 3 _ rfl⟩
theorem keys_any (s q : Int) (rs : List Rd1) (ws : List Wr1) (A1 : Option Addr) (c1 : Nat) (A2 : Option Addr) (c2 : Nat) (w : World) (B : Nat) (hB : B ≤ w.heap.size) (ok : TxOk w B rs ws A1 c1 A2 c2) (h1 : rs.length ≤ 6) (h2 : ws.length ≤ 6) :
 Calls Tryz.prog 121 #[.agg #[.int .i64 s, .int .i64 q, .slice A1 rs.length c1, .slice A2 ws.length c2]] w (MadeS w (rs.map (·.1) ++ ws.map (·.1))) := by
 obtain ⟨i0, hi, hz0, hz1, hz2⟩ := info_parts info_str;obtain ⟨n, hn⟩ : ∃ n, n = rs.length := ⟨_, rfl⟩;obtain ⟨m, hm⟩ : ∃ m, m = ws.length := ⟨_, rfl⟩;have HN := Lib.hid hn;have HM := Lib.hid hm;have HK := Lib.hid ok;rw [← hn] at h1 ⊢;rw [← hm] at h2 ⊢;(have rc : n ≤ c1 := by rw [hn]; exact ok.rc);(have wc : m ≤ c2 := by rw [hm]; exact ok.wc);have rm := ok.rm;have wm := ok.wm;unfold maxLen at rm wm;clear hn hm ok;have g0 : Below w.heap.size w (w.alloc (.cells #[.int .i64 s, .int .i64 q, .slice A1 n c1, .slice A2 m c2] 30)) := (Below.refl _ _).alloc (Nat.le_refl _) _;(have K2 : Hid ((w.alloc (.cells #[.int .i64 s, .int .i64 q, .slice A1 n c1, .slice A2 m c2] 30)).cell? ⟨w.heap.size, 3, none⟩ = some (.slice A2 m c2)) := by show _ = _; simp);(have S0 : Hid ((w.alloc (.cells #[.int .i64 s, .int .i64 q, .slice A1 n c1, .slice A2 m c2] 30)).heap.size = w.heap.size + 1) := by show _ = _; simp)
 go_enter Tryz.func121, Tryz.ntmps121
 go_upto_region 3 with fail
 generalize w.alloc (.cells #[.int .i64 s, .int .i64 q, .slice A1 n c1, .slice A2 m c2] 30) = w0 at g0 K2 S0 ⊢;(have gB : w.heap.size + 1 ≤ w0.heap.size := by rw [S0.out]; exact Nat.le_refl _);clear S0
 go_loopw [3, 5, 11] (fun v _ i wr => ∃ k : Nat, k ≤ n ∧ i = .int .i64 (k : Int) ∧ wr.ownsRow (w.heap.size + 1) 9 1 v k (strs ((rs.map (·.1)).take k)) ∧ Hid (Below (w.heap.size + 1) w0 wr)) (fun _ _ i _ => n - (intOf i).toNat)
 case atStart => exact ⟨0, Nat.zero_le _, rfl, by simpa [strs] using World.ownsRow_nil _ _ _ _, Below.refl _ _⟩
 case round =>
  obtain ⟨k, hk, rfl, hown, hbel⟩ := hrel
  by_cases hlt : k < n
  ·(have hkl : k < rs.length := by rw [← HN.out]; exact hlt);(have hsz : w.heap.size + 1 ≤ wr.heap.size := by have := hbel.out.size; omega);obtain ⟨b, off, rfl, hb, x0, x1⟩ := (((HK.out.r.below g0 hB).below hbel.out (by omega))).rd k hkl
   have HE : Hid (strs ((rs.map (·.1)).take k) ++ [.string ⟨rs[k].1.toArray⟩] = strs ((rs.map (·.1)).take (k + 1))) := by
    show _ = _;rw [List.take_add_one, strs_app, List.getElem?_map, List.getElem?_eq_getElem hkl]; rfl
   generalize rs[k] = r at x0 x1 HE;obtain ⟨ky, ver⟩ := r;simp only at x0 x1 HE
   go_wp2_with (at_builtin; refine wpList_append_own _ rfl _ _ 172 rfl (w.heap.size + 1) 9 i0 (.string ByteArray.empty) 1 16 Tryz.underlying172 hi hz0 hz1 hz2 rfl (by decide) _ _ _ rfl ((hown.alloc _).alloc _) ⟨wr.heap.size + 1, 0, none⟩ 1 1 [.string ⟨ky.toArray⟩] rfl rfl ?c1 ?c2 ?c3 ?c4 ?c5 ?_)
   case c1 => intro j u hj; match j, hj with | 0, hj => simp at hj; subst hj; simp [Addr.add]
   case c2 => intro u hu; simp at hu; subst hu; rfl
   case c3 => unfold maxLen; omega
   case c4 => omega
   case c5 => simp; omega
   intro v' w3 hown' hgrow _;have hB3 : Below (w.heap.size + 1) w0 w3 := ((hbel.out.alloc hsz _).alloc (by simp; omega) _).grown hgrow (by simp; omega) (fun g hg => (hown.lt g hg).1);rw [HE.out] at hown';clear hgrow hown HE
   go_wp2_with fail
   go_roundw
   case rel => exact ⟨k + 1, by omega, by go_num, hown', hB3⟩
   case measure => simp [intOf]; omega
  ·(obtain rfl : k = n := by omega);(have hsz : w.heap.size + 1 ≤ wr.heap.size := by have := hbel.out.size; omega);have x2 : wr.cell? ⟨w.heap.size, 3, none⟩ = some (.slice A2 m c2) := (hbel.out.cell (by simp)).trans K2.out
   have HE0 : strs ((rs.map (·.1)).take k) = strs (rs.map (·.1) ++ (ws.map (·.1)).take 0) := by rw [List.take_of_length_le (by simp [HN.out])]; simp
   rw [HE0] at hown;clear HE0;have HB0 := hbel;clear hbel
   go_upto_region 8 with fail
   clear x2
   go_loopw [3, 7, 24] (fun v _ i wq => ∃ j : Nat, j ≤ m ∧ i = .int .i64 (j : Int) ∧ wq.ownsRow (w.heap.size + 1) 9 1 v (k + j) (strs (rs.map (·.1) ++ (ws.map (·.1)).take j)) ∧ Hid (Below (w.heap.size + 1) w0 wq)) (fun _ _ i _ => m - (intOf i).toNat)
   case atStart => exact ⟨0, Nat.zero_le _, rfl, hown, HB0⟩
   case round =>
    obtain ⟨j, hj, rfl, hown, hbel⟩ := hrel
    by_cases hltj : j < m
    ·(have hjl : j < ws.length := by rw [← HM.out]; exact hltj);(have hsz : w.heap.size + 1 ≤ wr.heap.size := by have := hbel.out.size; omega);obtain ⟨b, off, rfl, hb, x0, x1, x2, x3⟩ := (((HK.out.w.below g0 hB).below hbel.out (by omega))).wr j hjl
     have HE : Hid (strs (rs.map (·.1) ++ (ws.map (·.1)).take j) ++ [.string ⟨ws[j].1.toArray⟩] = strs (rs.map (·.1) ++ (ws.map (·.1)).take (j + 1))) := by
      show _ = _;rw [List.take_add_one, ← List.append_assoc, strs_app _ (Option.toList _), List.getElem?_map, List.getElem?_eq_getElem hjl]; rfl
     generalize ws[j] = r at x0 x1 x2 x3 HE;obtain ⟨ky, vk, vb, vt⟩ := r;simp only at x0 x1 x2 x3 HE
     go_wp2_with (at_builtin; refine wpList_append_own _ rfl _ _ 172 rfl (w.heap.size + 1) 9 i0 (.string ByteArray.empty) 1 16 Tryz.underlying172 hi hz0 hz1 hz2 rfl (by decide) _ _ _ rfl ((hown.alloc _).alloc _) ⟨wr.heap.size + 1, 0, none⟩ 1 1 [.string ⟨ky.toArray⟩] rfl rfl ?c1 ?c2 ?c3 ?c4 ?c5 ?_)
     case c1 => intro j u hj; match j, hj with | 0, hj => simp at hj; subst hj; simp [Addr.add]
     case c2 => intro u hu; simp at hu; subst hu; rfl
     case c3 => unfold maxLen; omega
     case c4 => omega
     case c5 => simp; omega
     intro v' w3 hown' hgrow _;have hB3 : Below (w.heap.size + 1) w0 w3 := ((hbel.out.alloc hsz _).alloc (by simp; omega) _).grown hgrow (by simp; omega) (fun g hg => (hown.lt g hg).1);rw [HE.out] at hown';clear hgrow hown HE
     go_wp2_with fail
     go_roundw
     case rel => exact ⟨j + 1, by omega, by go_num, hown', hB3⟩
     case measure => simp [intOf]; omega
    ·obtain rfl : j = m := by omega
     have HL : Hid ((rs.map (·.1) ++ ws.map (·.1)).length = k + j) := by show _ = _; simp [HN.out, HM.out]
     have HE : Hid (strs (rs.map (·.1) ++ (ws.map (·.1)).take j) = strs (rs.map (·.1) ++ ws.map (·.1))) := by show _ = _; rw [List.take_of_length_le (by simp [HM.out])]
     go_wp2_with fail
     go_ret
     rw [HE.out] at hown;refine ⟨_, rfl, ?_, g0.trans (hbel.out.mono (by omega))⟩;rw [HL.out];exact ownMore hown (by omega)
end
section
open Go.RowKit T
theorem tclos_any (ky : ByteArray) (k : Int) (b : Nat) (t : ByteArray) (w : World) (hT : Tabs w) :
 Calls Tryz.prog 124 #[.agg #[.string ky, .int .i64 k, .int .u64 (b : Int), .string t]] w fun e w' => e = .returned (.bool (!V.formed k b t.data.toList)) ∧ Below w.heap.size w w' := by
 have g0 : Below w.heap.size w (w.alloc (.cells #[.string ky, .int .i64 k, .int .u64 (b : Int), .string t] 163)) := (Below.refl _ _).alloc (Nat.le_refl _) _;have HF := Lib.hid (formed_any k b t _ (hT.below g0));unfold V.val at HF
 go_enter Tryz.func124, Tryz.ntmps124
 go_wp2_with fail
 refine HF.out.mono ?_;rintro e w1 ⟨rfl, b1⟩
 go_wp2_with fail
 go_ret
 exact ⟨rfl, g0.trans (b1.mono g0.size)⟩
theorem T.all_false (ws : List Wr1) (k : Nat) (hk : k < ws.length) (h : wok ws[k] = false) : ws.all wok = false := by
 cases ha : ws.all wok with
 | false => rfl
 | true => rw [List.all_eq_true.1 ha _ (List.getElem_mem hk)] at h; exact Bool.noConfusion h
theorem T.all_true (ws : List Wr1) (h : ∀ k, ∀ hk : k < ws.length, wok ws[k] = true) : ws.all wok = true := List.all_eq_true.2 fun x hx => by
 obtain ⟨k, hk, rfl⟩ := List.mem_iff_getElem.1 hx;exact h k hk
theorem tindex_any (ws : List Wr1) (A : Option Addr) (c : Nat) (w : World) (B : Nat) (hB : B ≤ w.heap.size) (hr : RowsAt w B A 4 (ws.map encW)) (hc : ws.length ≤ c) (hm : c ≤ maxLen) (hT : Tabs w) :
 Calls Tryz.prog 139 #[.slice A ws.length c, .func (.func 124) #[] #[]] w fun e w' => (∃ r : Int, e = .returned (.int .i64 r) ∧ decide (0 ≤ r) = !ws.all wok) ∧ Below w.heap.size w w' := by
 have eg : ∀ args w, (callFunc 124 args).run Tryz.prog w = .ok (.enter 124 args) w := enters_of Tryz.func124 (by kernel_rfl) rfl;obtain ⟨n, hn⟩ : ∃ n, n = ws.length := ⟨_, rfl⟩;have HN := Lib.hid hn;rw [← hn] at hc ⊢;clear hn;unfold maxLen at hm
 go_enter Tryz.func139, Tryz.ntmps139
 go_wp2_with fail
 go_loopw [5, 8] (fun _ i wr => ∃ k : Nat, k ≤ n ∧ i = .int .i64 (k : Int) ∧ Hid (∀ j, ∀ hj : j < ws.length, j < k → wok ws[j] = true) ∧ Below w.heap.size w wr) (fun _ i _ => n - (intOf i).toNat)
 case atStart => exact ⟨0, Nat.zero_le _, rfl, fun j _ hj => absurd hj (Nat.not_lt_zero _), Below.refl _ _⟩
 case round =>
  obtain ⟨k, hk, rfl, HG, hbel⟩ := hrel
  by_cases hlt : k < n
  ·(have hkl : k < ws.length := by rw [← HN.out]; exact hlt);obtain ⟨b, off, rfl, hb, x0, x1, x2, x3⟩ := (hr.below hbel hB).wr k hkl;have HC := Lib.hid (tclos_any ⟨ws[k].1.toArray⟩ ws[k].2.1 ws[k].2.2.1 ⟨ws[k].2.2.2.toArray⟩ wr (hT.below hbel));have HW : Hid (wok ws[k] = V.formed ws[k].2.1 ws[k].2.2.1 ws[k].2.2.2) := rfl;obtain ⟨r, hrr⟩ : ∃ r, r = V.formed ws[k].2.1 ws[k].2.2.1 ws[k].2.2.2 := ⟨_, rfl⟩
   have HC' : Hid (Calls Tryz.prog 124 #[.agg #[.string ⟨ws[k].1.toArray⟩, .int .i64 ws[k].2.1, .int .u64 (ws[k].2.2.1 : Int), .string ⟨ws[k].2.2.2.toArray⟩]] wr fun e w' => e = .returned (.bool (!r)) ∧ Below wr.heap.size wr w') := by
    rw [hrr]; exact HC.out
   rw [← hrr] at HW;clear HC hrr;generalize ws[k].1 = ky at x0 HC';generalize ws[k].2.1 = vk at x1 HC';generalize ws[k].2.2.1 = vb at x2 HC';generalize ws[k].2.2.2 = vt at x3 HC';have HC := HC';clear HC'
   cases r with
   | false =>
     have HR := Lib.hid (all_false ws k hkl HW.out);clear HW HG
     go_wp2_with (go_at_fn 124; refine HC.out.mono ?_; rintro e w' ⟨rfl, hb'⟩)
     go_ret
     exact ⟨⟨_, rfl, by rw [HR.out]; simp⟩, hbel.trans (hb'.mono hbel.size)⟩
   | true =>
     have HG' : Hid (∀ j, ∀ hj : j < ws.length, j < k + 1 → wok ws[j] = true) := fun j hj hjk => by
      by_cases e : j = k
      ·subst e; exact HW.out
      ·exact HG.out j hj (by omega)
     clear HW HG
     go_wp2_with (go_at_fn 124; refine HC.out.mono ?_; rintro e w' ⟨rfl, hb'⟩)
     go_roundw
     case rel => exact ⟨k + 1, by omega, by go_num, HG', hbel.trans (hb'.mono hbel.size)⟩
     case measure => first | (simp [intOf]; done) | (simp [intOf]; omega)
  ·(obtain rfl : k = n := by omega);have HR := Lib.hid (all_true ws fun j hj => HG.out j hj (by rw [HN.out]; exact hj));clear HG
   go_wp2_with fail
   go_ret
   exact ⟨⟨_, rfl, by rw [HR.out]; rfl⟩, hbel⟩
theorem tcontains_any (ws : List Wr1) (A : Option Addr) (c : Nat) (w : World) (B : Nat) (hB : B ≤ w.heap.size) (hr : RowsAt w B A 4 (ws.map encW)) (hc : ws.length ≤ c) (hm : c ≤ maxLen) (hT : Tabs w) :
 Calls Tryz.prog 123 #[.slice A ws.length c, .func (.func 124) #[] #[]] w fun e w' => e = .returned (.bool (!ws.all wok)) ∧ Below w.heap.size w w' := by
 have HI := Lib.hid (tindex_any ws A c w B hB hr hc hm hT)
 go_enter Tryz.func123, Tryz.ntmps123
 go_wp2_with fail
 refine HI.out.mono ?_;rintro e w1 ⟨⟨r, rfl, hr'⟩, b1⟩;have HR := Lib.hid hr';clear hr'
 go_wp2_with fail
 all_goals
  go_ret
  exact ⟨ret_bool (by rw [← HR.out]), b1⟩
theorem tformed_any (s q : Int) (rs : List Rd1) (ws : List Wr1) (A1 : Option Addr) (c1 : Nat) (A2 : Option Addr) (c2 : Nat) (w : World) (B : Nat) (hB : B ≤ w.heap.size) (ok : TxOk w B rs ws A1 c1 A2 c2) (hT : Tabs w) :
 Calls Tryz.prog 93 #[.agg #[.int .i64 s, .int .i64 q, .slice A1 rs.length c1, .slice A2 ws.length c2]] w fun e w' => e = .returned (.bool (T.formed s q rs ws)) ∧ Below w.heap.size w w' := by
 obtain ⟨p, hp⟩ : ∃ p : Bool, p = T.formed s q rs ws := ⟨_, rfl⟩;have HP := Lib.hid hp;rw [← hp];obtain ⟨n, hn⟩ : ∃ n, n = rs.length := ⟨_, rfl⟩;obtain ⟨m, hm⟩ : ∃ m, m = ws.length := ⟨_, rfl⟩;have HN := Lib.hid hn;have HM := Lib.hid hm;rw [← hn, ← hm];have g0 : Below w.heap.size w (w.alloc (.cells #[.int .i64 s, .int .i64 q, .slice A1 n c1, .slice A2 m c2] 30)) := (Below.refl _ _).alloc (Nat.le_refl _) _;obtain ⟨w0, hw0⟩ : ∃ w0, w0 = w.alloc (.cells #[.int .i64 s, .int .i64 q, .slice A1 n c1, .slice A2 m c2] 30) := ⟨_, rfl⟩;(have y0 : w0.cell? ⟨w.heap.size, 0, none⟩ = some (.int .i64 s) := by rw [hw0]; simp);(have y1 : w0.cell? ⟨w.heap.size, 1, none⟩ = some (.int .i64 q) := by rw [hw0]; simp);(have y2 : w0.cell? ⟨w.heap.size, 2, none⟩ = some (.slice A1 n c1) := by rw [hw0]; simp);(have y3 : w0.cell? ⟨w.heap.size, 3, none⟩ = some (.slice A2 m c2) := by rw [hw0]; simp);have y23 := Lib.hid (And.intro y0 (And.intro y1 (And.intro y2 y3)));rw [← hw0] at g0;have HO := Lib.hid (ok.below g0 hB);have hT0 := Lib.hid (hT.below g0);have gB : w.heap.size ≤ w0.heap.size := g0.size;clear hp hn hm hT ok
 go_enter Tryz.func93, Tryz.ntmps93
 go_upto_region 1 with fail
 rw [← hw0];clear hw0
 go_wp2_with fail
 refine (tid_any s q w0).mono ?_;rintro e w1 ⟨rfl, b1⟩;have e1 := g0.trans (b1.mono gB);have s1 := b1.size;have y3 := cellB b1 y3;clear y0 y1 y2
 cases hid : idb s q with
 | false =>
   (have HR : Hid (false = p) := by show _ = _; rw [HP.out]; unfold T.formed; rw [hid]; rfl);clear hid
   go_wp2_with fail
   go_ret
   exact ⟨ret_bool HR.out, e1⟩
 | true =>
   have HI := Lib.hid hid;clear hid
   by_cases h1 : 6 < n
   ·have HR : Hid (false = p) := by show _ = _; rw [HP.out]; unfold T.formed; rw [HI.out, ← HN.out, ← HM.out, decide_eq_false (by omega)]; rfl
    go_wp2_with fail
    go_ret
    exact ⟨ret_bool HR.out, e1⟩
   ·by_cases h2 : 6 < m
    ·have HR : Hid (false = p) := by show _ = _; rw [HP.out]; unfold T.formed; rw [HI.out, ← HN.out, ← HM.out, decide_eq_false (by omega)]; rfl
     go_wp2_with fail
     go_ret
     exact ⟨ret_bool HR.out, e1⟩
    ·by_cases h3 : n + m = 0
     ·(have HR : Hid (false = p) := by show _ = _; rw [HP.out]; unfold T.formed; rw [HI.out, ← HN.out, ← HM.out, decide_eq_false (by omega)]; rfl);(have h3' : (n : Int) + (m : Int) = 0 := by omega)
      go_wp2_with fail
      go_ret
      exact ⟨ret_bool HR.out, e1⟩
     ·(have h3' : ((n : Int) + (m : Int) == 0) = false := by simp; omega);(have d1 : decide (6 < (n : Int)) = false := by simp; omega);(have d2 : decide (6 < (m : Int)) = false := by simp; omega)
      have HF : Hid (p = (rises (rs.map (·.1)) && rises (ws.map (·.1)) && ws.all wok)) := by
       show _ = _;rw [HP.out]; unfold T.formed;rw [HI.out, ← HN.out, ← HM.out, decide_eq_true (by omega)]; rfl
      have HO1 := Lib.hid (HO.out.below b1 (by omega));have HT1 := Lib.hid (hT0.out.below b1);have HKE := Lib.hid (keys_any s q rs ws A1 c1 A2 c2 w1 B (by omega) HO1.out (by rw [← HN.out]; omega) (by rw [← HM.out]; omega));have z := y23.out;have z0 := cellB b1 z.1;have z1 := cellB b1 z.2.1;have z2 := cellB b1 z.2.2.1
      have HKE' : Hid (Calls Tryz.prog 121 #[.agg #[.int .i64 s, .int .i64 q, .slice A1 n c1, .slice A2 m c2]] w1 (MadeS w1 (rs.map (·.1) ++ ws.map (·.1)))) := by
       show Calls _ _ _ _ _;rw [HN.out, HM.out]; exact HKE.out
      clear HKE z
      go_wp2_with fail
      refine HKE'.out.mono ?_;rintro e w2 ⟨v, rfl, o2, b2⟩;obtain ⟨KA, kc, rfl, hkc, hkA, hkm⟩ := ownShape o2
      have HL : Hid ((rs.map (·.1) ++ ws.map (·.1)).length = n + m) := by show _ = _; rw [HN.out, HM.out]; simp
      rw [HL.out] at o2 hkc ⊢;have hrd := Rd.ofOwn o2;unfold maxLen at hkm
      go_wp2_with fail
      have HS1 : Hid ((strs (rs.map (·.1) ++ ws.map (·.1))).take n = strs (rs.map (·.1))) := by
       show _ = _; rw [strs_app, List.take_append_of_le_length (by rw [strs_len, HN.out]; simp), List.take_of_length_le (by rw [strs_len, HN.out]; simp)]
      have HS2 : Hid ((strs (rs.map (·.1) ++ ws.map (·.1))).drop n = strs (ws.map (·.1))) := by
       show _ = _; rw [strs_app, List.drop_append_of_le_length (by rw [strs_len, HN.out]; simp), List.drop_of_length_le (by rw [strs_len, HN.out]; simp)]; rfl
      have hlr : ∀ x ∈ rs.map (·.1), x.length ≤ 9223372036854775807 := fun x hx => by
       obtain ⟨r, hr, rfl⟩ := List.mem_map.1 hx; exact (HO1.out.ro r hr).1
      have hlw : ∀ x ∈ ws.map (·.1), x.length ≤ 9223372036854775807 := fun x hx => by
       obtain ⟨r, hr, rfl⟩ := List.mem_map.1 hx; exact (HO1.out.wo r hr).1
      have r1 := hrd.take n;rw [HS1.out] at r1
      have HR1 := Lib.hid (rises_any KA kc (rs.map (·.1)) w2 w2.heap.size (by simp [← HN.out]; omega) (by unfold maxLen; omega) r1 (Nat.le_refl _) hlr)
      rw [show (rs.map (·.1)).length = n by rw [HN.out]; simp] at HR1
      have s2 := b2.size;have e2 := e1.trans (b2.mono (by omega));refine HR1.out.mono ?_;rintro e w3 ⟨rfl, b3⟩;have e3 := e2.trans (b3.mono (by omega));have s3 := b3.size;have y3 := cellB b3 (cellB b2 y3);clear HR1 r1
      cases hr1 : rises (rs.map (·.1)) with
      | false =>
        (have HR : Hid (false = p) := by show _ = _; rw [HF.out, hr1]; rfl);clear hr1
        go_wp2_with fail
        go_ret
        exact ⟨ret_bool HR.out, e3⟩
      | true =>
        rw [hr1, Bool.true_and] at HF;clear hr1;have r2 := (hrd.cut (k := n) (cap := kc) (by rw [strs_len, HL.out]; omega)).below b3;rw [HS2.out] at r2;(have hmk : m ≤ kc - n := by omega)
        by_cases hca : kc = n
        ·rw [if_pos hca] at r2
         have HR2 := Lib.hid (rises_any (KA) (0) (ws.map (·.1)) w3 w2.heap.size (by simp [← HM.out]; omega) (by unfold maxLen; omega) r2 (by omega) hlw)
         rw [show (ws.map (·.1)).length = m by rw [HM.out]; simp] at HR2
         have HC := Lib.hid (fun z (hz : Below w3.heap.size w3 z) => tcontains_any ws A2 c2 z B (by have := hz.size; omega) (((HO1.out.w.below b2 (by omega)).below b3 (by omega)).below hz (by omega)) HO1.out.wc HO1.out.wm (((HT1.out.below b2).below b3).below hz));rw [← HM.out] at HC
         go_wp2_with fail
         refine HR2.out.mono ?_;rintro e w4 ⟨rfl, b4⟩;have e4 := e3.trans (b4.mono (by omega));have s4 := b4.size;have y3 := cellB b4 y3;clear HR2 r2
         cases hr2 : rises (ws.map (·.1)) with
         | false =>
           (have HR : Hid (false = p) := by show _ = _; rw [HF.out, hr2]; rfl);clear hr2
           go_wp2_with fail
           go_ret
           exact ⟨ret_bool HR.out, e4⟩
         | true =>
           rw [hr2, Bool.true_and] at HF;clear hr2
           go_wp2_with fail
           refine (HC.out w4 b4).mono ?_;rintro e w5 ⟨rfl, b5⟩;(have HR : Hid ((!!ws.all wok) = p) := by show _ = _; rw [HF.out, Bool.not_not]);generalize ws.all wok = r at HR ⊢;clear HC
           cases r with
           | false =>
             go_wp2_with fail
             go_ret
             exact ⟨ret_bool HR.out, e4.trans (b5.mono (by omega))⟩
           | true =>
             go_wp2_with fail
             go_ret
             exact ⟨ret_bool HR.out, e4.trans (b5.mono (by omega))⟩
        ·rw [if_neg hca] at r2
         have HR2 := Lib.hid (rises_any (KA.map (·.add n)) (kc - n) (ws.map (·.1)) w3 w2.heap.size (by simp [← HM.out]; omega) (by unfold maxLen; omega) r2 (by omega) hlw)
         rw [show (ws.map (·.1)).length = m by rw [HM.out]; simp] at HR2
         have HC := Lib.hid (fun z (hz : Below w3.heap.size w3 z) => tcontains_any ws A2 c2 z B (by have := hz.size; omega) (((HO1.out.w.below b2 (by omega)).below b3 (by omega)).below hz (by omega)) HO1.out.wc HO1.out.wm (((HT1.out.below b2).below b3).below hz));rw [← HM.out] at HC
         go_wp2_with fail
         refine HR2.out.mono ?_;rintro e w4 ⟨rfl, b4⟩;have e4 := e3.trans (b4.mono (by omega));have s4 := b4.size;have y3 := cellB b4 y3;clear HR2 r2
         cases hr2 : rises (ws.map (·.1)) with
         | false =>
           (have HR : Hid (false = p) := by show _ = _; rw [HF.out, hr2]; rfl);clear hr2
           go_wp2_with fail
           go_ret
           exact ⟨ret_bool HR.out, e4⟩
         | true =>
           rw [hr2, Bool.true_and] at HF;clear hr2
           go_wp2_with fail
           refine (HC.out w4 b4).mono ?_;rintro e w5 ⟨rfl, b5⟩;(have HR : Hid ((!!ws.all wok) = p) := by show _ = _; rw [HF.out, Bool.not_not]);generalize ws.all wok = r at HR ⊢;clear HC
           cases r with
           | false =>
             go_wp2_with fail
             go_ret
             exact ⟨ret_bool HR.out, e4.trans (b5.mono (by omega))⟩
           | true =>
             go_wp2_with fail
             go_ret
             exact ⟨ret_bool HR.out, e4.trans (b5.mono (by omega))⟩
end
end Go.Proofs.YthclniimhpmeoaaGreatDoor
