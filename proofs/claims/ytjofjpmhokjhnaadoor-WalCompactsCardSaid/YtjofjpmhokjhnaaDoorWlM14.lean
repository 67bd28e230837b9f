/- The walks of txn.Id, command.group, txn.rises, txn.keys. Conditions: what lies, lies below; texts are no longer than Go's. -/
import Derived.Test.YtjofjpmhokjhnaaDoorWlM11
import Derived.Test.YtjofjpmhokjhnaaDoorWlM5
import Derived.Test.YtjofjpmhokjhnaaDoorWlM12
import Derived.Laws.AppendOwnNone
namespace Go.Proofs.YtjofjpmhokjhnaaDoor
set_option maxRecDepth 20000
open Go.RowKit T
set_option linter.unusedSimpArgs false
set_option linter.unusedVariables false

set_option maxHeartbeats 800000 in
theorem tid_any (s q : Int) (w : World) :
    Calls Tryd.prog 47 #[.agg #[.int .i64 s, .int .i64 q]] w fun e w' => e = .returned (.bool (idb s q)) ∧ Below w.heap.size w w' := by
  obtain ⟨p, hp⟩ : ∃ p : Bool, p = idb s q := ⟨_, rfl⟩
  rw [← hp]
  have HP := Lib.hid hp
  clear hp
  go_enter Tryd.func47, Tryd.ntmps47
  go_wp2
  all_goals
    go_ret
    refine ⟨ret_bool ?_, (Below.refl _ _).alloc (Nat.le_refl _) _⟩
    rw [HP.out]
    unfold idb
    first | (simp [*]; done) | (simp [*]; intros; omega)
set_option maxHeartbeats 800000 in
theorem cgroup_any (g : Int) (w : World) :
    Calls Tryd.prog 99 #[.int .i64 g] w fun e w' => e = .returned (.bool (decide (0 ≤ g ∧ g < 4))) ∧ w = w' := by
  obtain ⟨p, hp⟩ : ∃ p : Bool, p = decide (0 ≤ g ∧ g < 4) := ⟨_, rfl⟩
  rw [← hp]
  have HP := Lib.hid hp
  clear hp
  go_enter Tryd.func99, Tryd.ntmps99
  go_wp2
  all_goals
    go_ret
    refine ⟨ret_bool ?_, rfl⟩
    rw [HP.out]
    first | (simp [*]; done) | (simp [*]; intros; omega)
/-- texts as cells -/
def T.strs (l : List (List UInt8)) : List Value := l.map fun k => .string ⟨k.toArray⟩
theorem T.strs_len (l : List (List UInt8)) : (strs l).length = l.length := by simp [strs]
theorem T.strs_get (l : List (List UInt8)) (k : Nat) (h : k < (strs l).length) : (strs l)[k] = .string ⟨(l[k]'(by simpa [strs] using h)).toArray⟩ := by simp [strs]
theorem T.good_at (l : List (List UInt8)) (k : Nat) (h : k < l.length) : good l k = (V.key l[k] && (decide (k = 0) || Op.bytesLess (l[k-1]'(by omega)) l[k])) := by
  unfold good
  rw [List.getElem?_eq_getElem h, List.getElem?_eq_getElem (by omega)]
  rfl
set_option maxHeartbeats 3200000 in
theorem rises_any (A : Option Addr) (c : Nat) (l : List (List UInt8)) (w : World) (B : Nat) (hc : l.length ≤ c) (hm : c ≤ maxLen) (hr : Rd w B A (strs l)) (hB : B ≤ w.heap.size) (ho : ∀ x ∈ l, x.length ≤ 9223372036854775807) :
    Calls Tryd.prog 101 #[.slice A l.length c] w fun e w' => e = .returned (.bool (rises l)) ∧ Below w.heap.size w w' := by
  obtain ⟨n, hn⟩ : ∃ n, n = l.length := ⟨_, rfl⟩
  have HN := Lib.hid hn
  rw [← hn] at hc ⊢
  clear hn
  unfold maxLen at hm
  obtain ⟨p0, hp0⟩ : ∃ p0 : Bool, p0 = rises l := ⟨_, rfl⟩
  have HP := Lib.hid hp0
  rw [← hp0]
  clear hp0
  go_enter Tryd.func101, Tryd.ntmps101
  go_wp2_with fail
  go_loopw [3, 4, 7] (fun _ _ i wr => ∃ k : Nat, k ≤ n ∧ i = .int .i64 (k : Int) ∧ Hid (∀ j, j < k → good l j = true) ∧ Below w.heap.size w wr) (fun _ _ i _ => n - (intOf i).toNat)
  case atStart => exact ⟨0, Nat.zero_le _, rfl, fun j hj => absurd hj (Nat.not_lt_zero _), Below.refl _ _⟩
  case round =>
    obtain ⟨k, hk, rfl, HG, hbel⟩ := hrel
    by_cases hlt : k < n
    · have hkl : k < l.length := by rw [← HN.out]; exact hlt
      have hG := Lib.hid (good_at l k hkl)
      obtain ⟨b, off, rfl, hb, c1⟩ := (hr.belowM hbel hB).at_ (k := k) (by rw [strs_len]; exact hkl)
      rw [strs_get] at c1
      have hsz := ho l[k] (List.getElem_mem hkl)
      obtain ⟨s, hs⟩ : ∃ s : ByteArray, s = ⟨l[k].toArray⟩ := ⟨_, rfl⟩
      rw [← hs] at c1
      have hsd : s.data.toList = l[k] := by rw [hs]
      have hss : s.size ≤ 9223372036854775807 := by rw [← str_size, hsd]; exact hsz
      have HK := Lib.hid (fun z => key_any s z hss)
      rw [hsd] at HK
      have HS := Lib.hid hsd
      clear hs hsd hsz hss
      cases hkey : V.key l[k] with
      | false =>
        rw [hkey] at HK hG
        have hgf : good l k = false := by rw [hG.out]; rfl
        have HR := Lib.hid (HP.out.trans (rises_false l k hkl hgf))
        clear hG HS hkey hgf
        go_wp2_with fail
        refine (HK.out _).mono ?_
        rintro e w1 ⟨rfl, b1⟩
        go_wp2_with fail
        go_ret
        exact ⟨ret_bool HR.out.symm, hbel.trans (b1.mono hbel.size)⟩
      | true =>
        rw [hkey] at HK hG
        clear hkey
        cases k with
        | zero =>
          have HG' : Hid (∀ j, j < 1 → good l j = true) := fun j hj => by
            obtain rfl : j = 0 := by omega
            rw [hG.out]; rfl
          have c1 : wr.cell? ⟨b, off, none⟩ = some (.string s) := c1
          clear HG hG HS
          go_wp2_with fail
          refine (HK.out _).mono ?_
          rintro e w1 ⟨rfl, b1⟩
          go_wp2_with fail
          go_roundw
          case rel => exact ⟨1, by omega, by go_num, HG', hbel.trans (b1.mono hbel.size)⟩
          case measure => first | (simp [intOf]; done) | (simp [intOf]; omega)
        | succ k =>
          have hkl' : k < l.length := by omega
          obtain ⟨b', off', hA', _, c2⟩ := (hr.belowM hbel hB).at_ (k := k) (by rw [strs_len]; exact hkl')
          rw [strs_get] at c2
          obtain ⟨p, hp⟩ : ∃ p : ByteArray, p = ⟨l[k].toArray⟩ := ⟨_, rfl⟩
          rw [← hp] at c2
          have hpd : p.data.toList = l[k] := by rw [hp]
          injection hA' with hA'
          injection hA' with e1 e2
          subst e1; subst e2
          have hG2 : Hid (good l (k + 1) = Op.bytesLess p.toList s.toList) := by
            show _ = _
            rw [hG.out, Lib.toList_data, Lib.toList_data, HS.out, hpd]
            simp
          clear hG HS hp hpd
          have hlt2 : (k : Int) + 1 < (n : Int) := by omega
          cases hless : Op.bytesLess p.toList s.toList with
          | false =>
            have hgf : good l (k + 1) = false := by rw [hG2.out]; exact hless
            have HR := Lib.hid (HP.out.trans (rises_false l (k + 1) hkl hgf))
            clear hG2 hgf
            go_wp2_with fail
            refine (HK.out _).mono ?_
            rintro e w1 ⟨rfl, b1⟩
            have c2 := cellB b1 c2
            go_wp2_with fail
            go_ret
            exact ⟨ret_bool HR.out.symm, hbel.trans (b1.mono hbel.size)⟩
          | true =>
            have HG' : Hid (∀ j, j < k + 1 + 1 → good l j = true) := fun j hj => by
              by_cases e : j = k + 1
              · subst e; rw [hG2.out]; exact hless
              · exact HG.out j (by omega)
            clear HG hG2
            go_wp2_with fail
            refine (HK.out _).mono ?_
            rintro e w1 ⟨rfl, b1⟩
            have c2 := cellB b1 c2
            go_wp2_with fail
            go_roundw
            case rel => exact ⟨k + 1 + 1, by omega, by go_num, HG', hbel.trans (b1.mono hbel.size)⟩
            case measure => simp [intOf]; omega
    · obtain rfl : k = n := by omega
      have hrt : rises l = true := (rises_iff l).2 fun i hi => HG.out i (by rw [HN.out]; exact hi)
      have HR := Lib.hid (HP.out.trans hrt)
      clear HG hrt
      go_wp2_with fail
      go_ret
      exact ⟨ret_bool HR.out.symm, hbel⟩

theorem info_str : (Tryd.prog.info? 9).map (fun i => (i.zero, i.size, i.bytes)) = some (some (.string ByteArray.empty), 1, 16) := by kernel_rfl
/-- what a function that makes texts leaves -/
def MadeS (w : World) (l : List (List UInt8)) (e : Ending) (w' : World) : Prop :=
  ∃ v, e = .returned v ∧ w'.ownsRow w.heap.size 9 1 v l.length (strs l) ∧ Below w.heap.size w w'
theorem T.strs_app (l m : List (List UInt8)) : strs (l ++ m) = strs l ++ strs m := by simp [strs]
theorem T.encR_map (rs : List Rd1) (k : Nat) (h : k < rs.length) : (rs.map encR)[k]'(by simpa using h) = [.string ⟨rs[k].1.toArray⟩, .int .u64 (rs[k].2 : Int)] := by simp [encR]
theorem T.encW_map (ws : List Wr1) (k : Nat) (h : k < ws.length) : (ws.map encW)[k]'(by simpa using h) = [.string ⟨ws[k].1.toArray⟩, .int .i64 ws[k].2.1, .int .u64 (ws[k].2.2.1 : Int), .string ⟨ws[k].2.2.2.toArray⟩] := by simp [encW]
/-- the two cells of a read -/
theorem RowsAt.rd {w : World} {B : Nat} {A : Option Addr} {rs : List Rd1} (h : RowsAt w B A 2 (rs.map encR)) (k : Nat) (hk : k < rs.length) :
    ∃ b off, A = some ⟨b, off, none⟩ ∧ b < B ∧ w.cell? ⟨b, off + k * 2, none⟩ = some (.string ⟨rs[k].1.toArray⟩) ∧ w.cell? ⟨b, off + k * 2 + 1, none⟩ = some (.int .u64 (rs[k].2 : Int)) := by
  obtain ⟨b, off, hA, hb, hc⟩ := h.at_ (i := k) (by simpa using hk)
  rw [encR_map rs k hk] at hc
  exact ⟨b, off, hA, hb, hc 0 _ rfl, hc 1 _ rfl⟩
theorem RowsAt.wr {w : World} {B : Nat} {A : Option Addr} {ws : List Wr1} (h : RowsAt w B A 4 (ws.map encW)) (k : Nat) (hk : k < ws.length) :
    ∃ b off, A = some ⟨b, off, none⟩ ∧ b < B ∧ w.cell? ⟨b, off + k * 4, none⟩ = some (.string ⟨ws[k].1.toArray⟩) ∧ w.cell? ⟨b, off + k * 4 + 1, none⟩ = some (.int .i64 ws[k].2.1) ∧
      w.cell? ⟨b, off + k * 4 + 2, none⟩ = some (.int .u64 (ws[k].2.2.1 : Int)) ∧ w.cell? ⟨b, off + k * 4 + 3, none⟩ = some (.string ⟨ws[k].2.2.2.toArray⟩) := by
  obtain ⟨b, off, hA, hb, hc⟩ := h.at_ (i := k) (by simpa using hk)
  rw [encW_map ws k hk] at hc
  exact ⟨b, off, hA, hb, hc 0 _ rfl, hc 1 _ rfl, hc 2 _ rfl, hc 3 _ rfl⟩
set_option maxHeartbeats 3200000 in
theorem keys_any (s q : Int) (rs : List Rd1) (ws : List Wr1) (A1 : Option Addr) (c1 : Nat) (A2 : Option Addr) (c2 : Nat) (w : World) (B : Nat) (hB : B ≤ w.heap.size) (ok : TxOk w B rs ws A1 c1 A2 c2) (h1 : rs.length ≤ 6) (h2 : ws.length ≤ 6) :
    Calls Tryd.prog 100 #[.agg #[.int .i64 s, .int .i64 q, .slice A1 rs.length c1, .slice A2 ws.length c2]] w (MadeS w (rs.map (·.1) ++ ws.map (·.1))) := by
  obtain ⟨i0, hi, hz0, hz1, hz2⟩ := info_parts info_str
  obtain ⟨n, hn⟩ : ∃ n, n = rs.length := ⟨_, rfl⟩
  obtain ⟨m, hm⟩ : ∃ m, m = ws.length := ⟨_, rfl⟩
  have HN := Lib.hid hn
  have HM := Lib.hid hm
  have HK := Lib.hid ok
  rw [← hn] at h1 ⊢
  rw [← hm] at h2 ⊢
  have rc : n ≤ c1 := by rw [hn]; exact ok.rc
  have wc : m ≤ c2 := by rw [hm]; exact ok.wc
  have rm := ok.rm
  have wm := ok.wm
  unfold maxLen at rm wm
  clear hn hm ok
  have g0 : Below w.heap.size w (w.alloc (.cells #[.int .i64 s, .int .i64 q, .slice A1 n c1, .slice A2 m c2] 30)) := (Below.refl _ _).alloc (Nat.le_refl _) _
  have K2 : Hid ((w.alloc (.cells #[.int .i64 s, .int .i64 q, .slice A1 n c1, .slice A2 m c2] 30)).cell? ⟨w.heap.size, 3, none⟩ = some (.slice A2 m c2)) := by show _ = _; simp
  have S0 : Hid ((w.alloc (.cells #[.int .i64 s, .int .i64 q, .slice A1 n c1, .slice A2 m c2] 30)).heap.size = w.heap.size + 1) := by show _ = _; simp
  go_enter Tryd.func100, Tryd.ntmps100
  go_upto_region 3 with fail
  generalize w.alloc (.cells #[.int .i64 s, .int .i64 q, .slice A1 n c1, .slice A2 m c2] 30) = w0 at g0 K2 S0 ⊢
  have gB : w.heap.size + 1 ≤ w0.heap.size := by rw [S0.out]; exact Nat.le_refl _
  clear S0
  go_loopw [3, 5, 11] (fun v _ i wr => ∃ k : Nat, k ≤ n ∧ i = .int .i64 (k : Int) ∧ wr.ownsRow (w.heap.size + 1) 9 1 v k (strs ((rs.map (·.1)).take k)) ∧ Hid (Below (w.heap.size + 1) w0 wr)) (fun _ _ i _ => n - (intOf i).toNat)
  case atStart => exact ⟨0, Nat.zero_le _, rfl, by simpa [strs] using World.ownsRow_nil _ _ _ _, Below.refl _ _⟩
  case round =>
    obtain ⟨k, hk, rfl, hown, hbel⟩ := hrel
    by_cases hlt : k < n
    · have hkl : k < rs.length := by rw [← HN.out]; exact hlt
      have hsz : w.heap.size + 1 ≤ wr.heap.size := by have := hbel.out.size; omega
      obtain ⟨b, off, rfl, hb, x0, x1⟩ := (((HK.out.r.below g0 hB).below hbel.out (by omega))).rd k hkl
      have HE : Hid (strs ((rs.map (·.1)).take k) ++ [.string ⟨rs[k].1.toArray⟩] = strs ((rs.map (·.1)).take (k + 1))) := by
        show _ = _
        rw [List.take_add_one, strs_app, List.getElem?_map, List.getElem?_eq_getElem hkl]; rfl
      generalize rs[k] = r at x0 x1 HE
      obtain ⟨ky, ver⟩ := r
      simp only at x0 x1 HE
      go_wp2_with (at_builtin; refine wpList_append_own _ rfl _ _ 135 rfl (w.heap.size + 1) 9 i0 (.string ByteArray.empty) 1 16 Tryd.underlying135 hi hz0 hz1 hz2 rfl (by decide) _ _ _ rfl ((hown.alloc _).alloc _) ⟨wr.heap.size + 1, 0, none⟩ 1 1 [.string ⟨ky.toArray⟩] rfl rfl ?c1 ?c2 ?c3 ?c4 ?c5 ?_)
      case c1 => intro j u hj; match j, hj with | 0, hj => simp at hj; subst hj; simp [Addr.add]
      case c2 => intro u hu; simp at hu; subst hu; rfl
      case c3 => unfold maxLen; omega
      case c4 => omega
      case c5 => simp; omega
      intro v' w3 hown' hgrow _
      have hB3 : Below (w.heap.size + 1) w0 w3 := ((hbel.out.alloc hsz _).alloc (by simp; omega) _).grown hgrow (by simp; omega) (fun g hg => (hown.lt g hg).1)
      rw [HE.out] at hown'
      clear hgrow hown HE
      go_wp2_with fail
      go_roundw
      case rel => exact ⟨k + 1, by omega, by go_num, hown', hB3⟩
      case measure => simp [intOf]; omega
    · obtain rfl : k = n := by omega
      have hsz : w.heap.size + 1 ≤ wr.heap.size := by have := hbel.out.size; omega
      have x2 : wr.cell? ⟨w.heap.size, 3, none⟩ = some (.slice A2 m c2) := (hbel.out.cell (by simp)).trans K2.out
      have HE0 : strs ((rs.map (·.1)).take k) = strs (rs.map (·.1) ++ (ws.map (·.1)).take 0) := by rw [List.take_of_length_le (by simp [HN.out])]; simp
      rw [HE0] at hown
      clear HE0
      have HB0 := hbel
      clear hbel
      go_upto_region 8 with fail
      clear x2
      go_loopw [3, 7, 24] (fun v _ i wq => ∃ j : Nat, j ≤ m ∧ i = .int .i64 (j : Int) ∧ wq.ownsRow (w.heap.size + 1) 9 1 v (k + j) (strs (rs.map (·.1) ++ (ws.map (·.1)).take j)) ∧ Hid (Below (w.heap.size + 1) w0 wq)) (fun _ _ i _ => m - (intOf i).toNat)
      case atStart => exact ⟨0, Nat.zero_le _, rfl, hown, HB0⟩
      case round =>
        obtain ⟨j, hj, rfl, hown, hbel⟩ := hrel
        by_cases hltj : j < m
        · have hjl : j < ws.length := by rw [← HM.out]; exact hltj
          have hsz : w.heap.size + 1 ≤ wr.heap.size := by have := hbel.out.size; omega
          obtain ⟨b, off, rfl, hb, x0, x1, x2, x3⟩ := (((HK.out.w.below g0 hB).below hbel.out (by omega))).wr j hjl
          have HE : Hid (strs (rs.map (·.1) ++ (ws.map (·.1)).take j) ++ [.string ⟨ws[j].1.toArray⟩] = strs (rs.map (·.1) ++ (ws.map (·.1)).take (j + 1))) := by
            show _ = _
            rw [List.take_add_one, ← List.append_assoc, strs_app _ (Option.toList _), List.getElem?_map, List.getElem?_eq_getElem hjl]; rfl
          generalize ws[j] = r at x0 x1 x2 x3 HE
          obtain ⟨ky, vk, vb, vt⟩ := r
          simp only at x0 x1 x2 x3 HE
          go_wp2_with (at_builtin; refine wpList_append_own _ rfl _ _ 135 rfl (w.heap.size + 1) 9 i0 (.string ByteArray.empty) 1 16 Tryd.underlying135 hi hz0 hz1 hz2 rfl (by decide) _ _ _ rfl ((hown.alloc _).alloc _) ⟨wr.heap.size + 1, 0, none⟩ 1 1 [.string ⟨ky.toArray⟩] rfl rfl ?c1 ?c2 ?c3 ?c4 ?c5 ?_)
          case c1 => intro j u hj; match j, hj with | 0, hj => simp at hj; subst hj; simp [Addr.add]
          case c2 => intro u hu; simp at hu; subst hu; rfl
          case c3 => unfold maxLen; omega
          case c4 => omega
          case c5 => simp; omega
          intro v' w3 hown' hgrow _
          have hB3 : Below (w.heap.size + 1) w0 w3 := ((hbel.out.alloc hsz _).alloc (by simp; omega) _).grown hgrow (by simp; omega) (fun g hg => (hown.lt g hg).1)
          rw [HE.out] at hown'
          clear hgrow hown HE
          go_wp2_with fail
          go_roundw
          case rel => exact ⟨j + 1, by omega, by go_num, hown', hB3⟩
          case measure => simp [intOf]; omega
        · obtain rfl : j = m := by omega
          have HL : Hid ((rs.map (·.1) ++ ws.map (·.1)).length = k + j) := by show _ = _; simp [HN.out, HM.out]
          have HE : Hid (strs (rs.map (·.1) ++ (ws.map (·.1)).take j) = strs (rs.map (·.1) ++ ws.map (·.1))) := by show _ = _; rw [List.take_of_length_le (by simp [HM.out])]
          go_wp2_with fail
          go_ret
          rw [HE.out] at hown
          refine ⟨_, rfl, ?_, g0.trans (hbel.out.mono (by omega))⟩
          rw [HL.out]
          exact ownMore hown (by omega)
end Go.Proofs.YtjofjpmhokjhnaaDoor
