/- The walk of CommandBack. Conditions: what lies, lies below; the tables lie; sizes. (Printed by gen_tio.py.) -/
import Derived.Test.YtkfnepmiigkdfaaDoorTioB
import Derived.Test.YtkfnepmiigkdfaaDoorTakeC
import Derived.Test.YtkfnepmiigkdfaaDoorTioC
import Derived.Test.YtkfnepmiigkdfaaDoorTxnD
import Derived.Test.YtkfnepmiigkdfaaDoorTxnE
import Derived.Test.YtkfnepmiigkdfaaDoorC9
import Derived.Test.YtkfnepmiigkdfaaDoorCmArg
import Derived.Test.YtkfnepmiigkdfaaDoorEnd1
namespace Go.Proofs.YtkfnepmiigkdfaaDoor
set_option maxRecDepth 20000
open Go.RowKit T
set_option linter.unusedSimpArgs false
set_option linter.unusedVariables false

theorem Arg.u16 {W : World} {t : TypeId} {v : Value} (h : Arg W t v) (ht : Tryd.prog.underlying t = some (.int .u16)) : ∃ a : Nat, v = .int .u16 a ∧ a < 65536 := by
  obtain ⟨a, rfl, w⟩ := h.int ht
  have := bounds_u16 w
  exact ⟨a.toNat, by rw [Int.toNat_of_nonneg this.1], by omega⟩
theorem info_int9 : (Tryd.prog.info? 3).map (fun i => (i.zero, i.size, i.bytes)) = some (some (.int .i64 0), 1, 8) := by kernel_rfl
/-- commands one behind the other -/
def encs (l : List Cm) : List UInt8 := l.flatMap (cput [])
theorem cput_app (l : List UInt8) (x : Cm) : cput l x = l ++ cput [] x := by
  unfold cput
  cases x.formed with
  | false => simp
  | true =>
    simp only [cond_true]
    split
    · rw [tput_app, tput_app (C.put [] 1 1), put1, put1]; simp
    · split
      · rw [put8, put8, put1, put1, idput_app, idput_app (C.put [] 2 1), put1, put1]; simp
      · split
        · rw [put1, put1, idput_app, put1, put1, put1, idput_app (C.put [] 3 1), put1]; simp
        · rw [put1, put1]; simp
theorem cput_len9 (x : Cm) : (cput [] x).length ≤ 1700000 := by
  unfold cput
  cases x.formed with
  | false => simp
  | true =>
    simp only [cond_true]
    have e1 := put_len2 [] 1 1
    have e2 := put_len2 [] 2 1
    have e3 := put_len2 [] 3 1
    have e0 := put_len2 [] 0 1
    have h1 := tput_len (C.put [] 1 1) x.s x.q x.rs x.ws
    have h2 := idput_len (C.put [] 2 1) x.i x.j
    have h3 := idput_len (C.put [] 3 1) x.i x.j
    have h4 := put_len2 (idput (C.put [] 2 1) x.i x.j) x.g.toNat 1
    have h5 := put_len2 (idput (C.put [] 3 1) x.i x.j) x.g.toNat 1
    have h6 := put_len2 (C.put (idput (C.put [] 2 1) x.i x.j) x.g.toNat 1) x.st 8
    have h7 := put_len2 (C.put (idput (C.put [] 3 1) x.i x.j) x.g.toNat 1) (if x.y = true then 1 else 0) 1
    simp only [List.length_nil] at e0 e1 e2 e3
    split
    · omega
    · split
      · omega
      · split <;> omega
theorem SlB.apart {w w' : World} {B : Nat} {v : Value} {l : List UInt8} {r : Option Nat} (h : SlB w B v l) (hg : w.grownBy w' r) (hne : ∀ b, v.ownBlock = some b → some b ≠ r) : SlB w' B v l := by
  obtain ⟨A, c, rfl, h1, h2, h3, hr⟩ := h
  refine ⟨A, c, rfl, h1, h2, h3, fun j u hj => ?_⟩
  obtain ⟨b, off, hA, hb, hc⟩ := hr j u hj
  subst hA
  exact ⟨b, off, rfl, hb, (World.cell?_of_block (hg.block b (World.block_lt_of_cell? w _ hc) (hne b rfl))).trans hc⟩
theorem encs_snoc (l : List Cm) (x : Cm) : encs (l ++ [x]) = encs l ++ cput [] x := by simp [encs]
theorem encs_len (l : List Cm) : (encs l).length ≤ l.length * 1700000 := by
  induction l with
  | nil => simp [encs]
  | cons a l ih => have := cput_len9 a; simp only [encs, List.flatMap_cons, List.length_append, List.length_cons] at ih ⊢; omega
theorem encs_drop (l : List Cm) (k : Nat) (h : k < l.length) : encs (l.drop k) = cput [] l[k] ++ encs (l.drop (k + 1)) := by
  unfold encs
  rw [List.drop_eq_getElem_cons h, List.flatMap_cons]
/-- the ends -/
def endsOf (l : List Cm) (k : Nat) : List Value := (List.range k).map fun i => .int .i64 ((encs (l.take (i + 1))).length : Int)
theorem endsOf_snoc (l : List Cm) (k : Nat) : endsOf l (k + 1) = endsOf l k ++ [.int .i64 ((encs (l.take (k + 1))).length : Int)] := by simp [endsOf, List.range_succ]
theorem endsOf_len (l : List Cm) (k : Nat) : (endsOf l k).length = k := by simp [endsOf]
/-- what is left in front of command k of what was cut off -/
def leftAt (l : List Cm) (at_ k : Nat) : List UInt8 := (encs (l.drop k)).take (at_ - (encs (l.take k)).length)
theorem left_step (l : List Cm) (at_ k : Nat) (hk : k < l.length) (h : (encs (l.take (k + 1))).length ≤ at_) : leftAt l at_ k = cput [] l[k] ++ leftAt l at_ (k + 1) := by
  have e : encs (l.take (k + 1)) = encs (l.take k) ++ cput [] l[k] := by rw [List.take_succ_eq_append_getElem hk, encs_snoc]
  rw [e, List.length_append] at h
  unfold leftAt
  rw [encs_drop l k hk, e, List.length_append, List.take_append, List.take_of_length_le (by omega)]
  congr 2
  omega
theorem left_cut (l : List Cm) (at_ k : Nat) (hk : k < l.length) (h0 : (encs (l.take k)).length ≤ at_) (h : at_ < (encs (l.take (k + 1))).length) : ∃ r, cput [] l[k] = leftAt l at_ k ++ r ∧ r ≠ [] := by
  have e : encs (l.take (k + 1)) = encs (l.take k) ++ cput [] l[k] := by rw [List.take_succ_eq_append_getElem hk, encs_snoc]
  rw [e, List.length_append] at h
  refine ⟨(cput [] l[k]).drop (at_ - (encs (l.take k)).length), ?_, ?_⟩
  · unfold leftAt
    rw [encs_drop l k hk, List.take_append_of_le_length (by omega)]
    exact (List.take_append_drop _ _).symm
  · intro hd
    have := congrArg List.length hd
    rw [List.length_drop] at this
    simp at this
    omega
theorem left_zero (l : List Cm) (at_ : Nat) : leftAt l at_ 0 = (encs l).take at_ := by simp [leftAt, encs]
set_option maxHeartbeats 12800000 in
theorem back_mid (A : Option Addr) (c : Nat) (l : List Cm) (cut : Nat) (hcut : cut < 65536) (w : World) (hc : l.length ≤ c) (hm : c ≤ maxLen) (hR : RowsAt w w.heap.size A 10 (l.map Cm.cells)) (hL : ∀ x ∈ l, CmOk w w.heap.size x) (hT : Tabs w) :
    Calls Tryd.prog 9 #[.slice A l.length c, .int .u16 (cut : Int)] w fun e w' => e = .returned (.bool true) ∧ Below w.heap.size w w' := by
  obtain ⟨i1, hi1, hz10, hz11, hz12⟩ := info_parts info_int9
  obtain ⟨n, hn⟩ : ∃ n, n = l.length := ⟨_, rfl⟩
  have HN := Lib.hid hn
  have HT := Lib.hid hT
  have HR := Lib.hid hR
  have HL := Lib.hid hL
  have HAW := Lib.hid (fun z (hz : Below w.heap.size w z) => c9_awake z (hT.below hz))
  rw [← hn] at hc ⊢
  clear hn hT hR hL
  unfold maxLen at hm
  have ee : Below w.heap.size w w := Below.refl _ _
  go_enter Tryd.func9, Tryd.ntmps9
  by_cases hl : 20 < n
  · go_wp2_with fail
    refine (HAW.out w ee).mono ?_
    rintro e z1 ⟨rfl, t⟩
    have ee := ee.trans (t.mono ee.size)
    clear t
    go_wp2_with fail
    refine (HAW.out z1 ee).mono ?_
    rintro e z2 ⟨rfl, t⟩
    have ee := ee.trans (t.mono ee.size)
    clear t
    go_wp2_with fail
    go_ret
    exact ⟨rfl, ee⟩
  · go_wp2_with fail
    refine (HAW.out w ee).mono ?_
    rintro e z1 ⟨rfl, t⟩
    have ee := ee.trans (t.mono ee.size)
    clear t
    have hle : ¬ 20 < n := hl
    clear hl
    have hl : decide (20 < (n : Int)) = false := by simp; omega
    go_wp2_with fail
    go_loopw [5, 6, 7] (fun bv u i wr => ∃ (k : Nat) (v : Value), k ≤ n ∧ i = .int .i64 (k : Int) ∧ bv = v ∧ Hid (SlB wr wr.heap.size v (encs (l.take k))) ∧ wr.ownsRow w.heap.size 3 1 u k (endsOf l k) ∧ Hid (∀ x ∈ l.take k, x.formed = true) ∧ Hid (Below w.heap.size w wr)) (fun _ _ i _ => n - (intOf i).toNat)
    case atStart => exact ⟨0, .slice none 0 0, Nat.zero_le _, rfl, rfl, SlB.nil, World.ownsRow_nil _ _ _ _, fun x hx => by simp at hx, ee⟩
    case round =>
      clear ee
      obtain ⟨k, vv, hk, rfl, hb, hs, hu, HFO, ee⟩ := hrel
      have hb := hb.symm
      subst hb
      have ee := ee.out
      have hs := hs.out
      by_cases hlt : k < n
      · have hkl : k < l.length := by rw [← HN.out]; exact hlt
        obtain ⟨bo, off, rfl, hbo, hr⟩ := rowsGet HR.out hkl
        have HX : Hid (CmOk w w.heap.size (l[k]'hkl)) := HL.out _ (List.getElem_mem hkl)
        have HK : Hid (encs (l.take (k + 1)) = encs (l.take k) ++ cput [] (l[k]'hkl)) := by show _ = _; rw [List.take_succ_eq_append_getElem hkl, encs_snoc]
        have HKF : Hid (∀ x ∈ l.take (k + 1), x ∈ l.take k ∨ x = l[k]'hkl) := fun x hx => by
          rw [List.take_succ_eq_append_getElem hkl, List.mem_append, List.mem_singleton] at hx
          exact hx
        have HEN := Lib.hid (endsOf_snoc l k)
        have hlen := encs_len (l.take k)
        have hlen2 := encs_len (l.take (k + 1))
        have hlt20 : (l.take k).length ≤ 20 := by rw [List.length_take]; omega
        have hlt21 : (l.take (k + 1)).length ≤ 20 := by rw [List.length_take]; omega
        generalize l[k] = x at hr HX HK HKF
        generalize encs (l.take k) = Ek at hs HK hlen
        rw [HK.out] at HEN hlen2
        go_upto_region 8 with fail
        refine wp_region_lit ?_
        iterate 27 (first | with_reducible refine isLoad (ty := 37) rfl ?_ | go_step)
        refine wpList_load_mid rfl 37 _ rfl (bo) (off + k * 10) rfl (x.cells) _ (rangeB hr ee hbo) Tryd.underlying37 rfl sizeCm ?_
        go_wp2_with fail
        refine (c9_few x.k x.s x.q x.rs x.ws x.A1 x.c1 x.A2 x.c2 x.i x.j x.g x.st x.y wr w.heap.size ee.size (HX.out.below ee (Nat.le_refl _))).mono ?_
        rintro e y1 ⟨⟨r, rfl⟩, t⟩
        have hu := ownBelow hu t
        have hs := hs.belowM t (Nat.le_refl _)
        have sz1 := t.size
        have ee := ee.trans (t.mono ee.size)
        clear t
        dsimp only
        rename_i hK
        refine hK _ _ ?_
        clear hK
        cases r with
        | false =>
          go_wp2_with fail
          go_ret
          exact ⟨rfl, ee⟩
        | true =>
          iterate 36 (first | with_reducible refine isLoad (ty := 37) rfl ?_ | go_step)
          refine wpList_load_g (by rfl) 37 _ rfl (bo) (off + k * 10) rfl (x.cells) _ (rangeB hr ee hbo) Tryd.underlying37 rfl sizeCm ?_
          have HFX := Lib.hid (fun z (hz : Below w.heap.size w z) => cformed_any x.k x.s x.q x.rs x.ws x.A1 x.c1 x.A2 x.c2 x.i x.j x.g x.st x.y z w.heap.size hz.size (HX.out.below hz (Nat.le_refl _)) (HT.out.below hz))
          have HFE : Hid (x.formed = T.cformed x.k x.s x.q x.rs x.ws x.i x.j x.g x.st x.y) := rfl
          rw [← HFE.out] at HFX
          obtain ⟨fx, hfx⟩ : ∃ f, f = x.formed := ⟨_, rfl⟩
          have HFX2 := Lib.hid hfx
          rw [← hfx] at HFX
          clear hfx HFE
          go_wp2_with fail
          refine (HFX.out y1 ee).mono ?_
          rintro e y2 ⟨rfl, t⟩
          have hu := ownBelow hu t
          have hs := hs.belowM t (by omega)
          have sz2 := t.size
          have ee := ee.trans (t.mono ee.size)
          clear t HFX
          cases fx with
          | false =>
            go_wp2_with fail
            go_ret
            exact ⟨rfl, ee⟩
          | true =>
            go_upto_region 10 with fail
            refine wp_region_lit ?_
            iterate 27 (first | with_reducible refine isLoad (ty := 37) rfl ?_ | go_step)
            refine wpList_load_mid rfl 37 _ rfl (bo) (off + k * 10) rfl (x.cells) _ (rangeB hr ee hbo) Tryd.underlying37 rfl sizeCm ?_
            go_wp2_with fail
            refine (cput_s hs (by omega) (by omega) x (CmOk.more (HX.out.below ee (Nat.le_refl _)) ee.size) (HT.out.below ee)).mono ?_
            rintro e y3 ⟨v3, rfl, hs3, t, fr⟩
            have huK := hu
            have hu := ownBelow hu t
            have hlow := huK.lt
            clear huK
            have sz3 := t.size
            have ee := ee.trans (t.mono ee.size)
            clear t hs
            rw [cput_app] at hs3
            have hs4 := Lib.hid hs3
            obtain ⟨vA, vc, rfl, hvc, _, _, _⟩ := hs3
            obtain ⟨ln, hln⟩ : ∃ m, m = (Ek ++ cput [] x).length := ⟨_, rfl⟩
            have HLN := Lib.hid hln
            rw [← hln] at hs4 HEN hvc hlen2 fr ⊢
            clear hln
            go_upto_region 11 with fail
            refine wp_region_lit ?_
            iterate 12 go_step
            have hu := hu.alloc (.cells #[.int .i64 (ln : Int)] 3)
            have e3 := ee.size
            have ZN := hpN y3 (.cells #[.int .i64 (ln : Int)] 3) rfl
            have hs5 : Hid (SlB (y3.alloc (.cells #[.int .i64 (ln : Int)] 3)) y3.heap.size (.slice vA ln vc) (Ek ++ cput [] x)) := hs4.out.belowM ((Below.refl _ _).alloc (Nat.le_refl _) _) (Nat.le_refl _)
            have ee := ee.alloc ee.size (.cells #[.int .i64 (ln : Int)] 3)
            clear hs4
            generalize y3.alloc (.cells #[.int .i64 (ln : Int)] 3) = y4 at hu ZN hs5 ee ⊢
            refine wpList_append_own _ rfl (.tmp 46) (.tmp 49) 78 rfl w.heap.size 3 i1 (.int .i64 0) 1 8 Tryd.underlying78 hi1 hz10 hz11 hz12 rfl (by decide) _ _ _ rfl hu ⟨y3.heap.size, 0, none⟩ 1 1 [.int .i64 (ln : Int)] rfl rfl (rowAdd (cs := [.int .i64 (ln : Int)]) ZN) (by simp [Value.oneCell']) (by unfold maxLen; omega) (by omega) ee.size ?_
            intro u_ y5 ho_ hg_ _
            have hs6 : Hid (SlB y5 y5.heap.size (.slice vA ln vc) (Ek ++ cput [] x)) := (SlB.apart hs5.out hg_ (fun b hb hbu => by have h1 := (hlow b hbu.symm).2; have h2 := fr b hb; omega)).more (by have h1 := (Array.getElem?_eq_some_iff.1 ZN).1; have h2 := hg_.size; omega)
            have ee := ee.grown hg_ ee.size (fun g hg => (hu.lt g hg).1)
            clear hg_ ZN hu hs5
            go_wp2_with fail
            go_roundw
            case rel =>
              refine ⟨k + 1, .slice vA ln vc, by omega, by go_num, rfl, by show SlB _ _ _ _; rw [HK.out]; exact hs6.out, by rw [HEN.out]; exact ho_, fun q hq => ?_, ee⟩
              rcases HKF.out q hq with hq | hq
              · exact HFO.out q hq
              · rw [hq]; exact HFX2.out.symm
            case measure => simp [intOf]; omega
      · obtain rfl : n = k := by omega
        have htk : l.take n = l := List.take_of_length_le (by rw [HN.out]; exact Nat.le_refl _)
        rw [htk] at hs HFO
        have hlen := encs_len l
        rw [← HN.out] at hlen
        clear htk hlt hk
        have hs0 := Lib.hid hs
        obtain ⟨vA, vc, rfl, hvc, hvm, hvA, hvr⟩ := hs
        obtain ⟨T, hTe⟩ : ∃ T, T = (encs l).length := ⟨_, rfl⟩
        have HTE := Lib.hid hTe
        rw [← hTe] at hvc hlen ⊢
        clear hTe
        obtain ⟨q, hq⟩ : ∃ q, q = cut % (T + 1) := ⟨_, rfl⟩
        have hqT : q ≤ T := by have := Nat.mod_lt cut (show 0 < T + 1 by omega); omega
        have HQ : Hid ((cut : Int) % ((T : Int) + 1) = (q : Int)) := by show _ = _; rw [hq]; simp
        have hT1 : ((T : Int) + 1 == 0) = false := by simp; omega
        clear hq
        obtain ⟨eA, ec, rfl, hec, heA, hem⟩ := ownShape hu
        have hql : ((encs l).take q).length = q := by rw [List.length_take, ← HTE.out]; omega
        have HNEW := Lib.hid (new_any vA vc ((encs l).take q) wr wr.heap.size (by rw [hql]; omega) hvm (fun h => ⟨by rw [(hvA h).1]; exact List.take_nil, (hvA h).2⟩) (by rw [← bc_take]; exact hvr.take q) (Nat.le_refl _))
        rw [hql] at HNEW
        have hqi : (0 : Int) ≤ (q : Int) := by omega
        clear hs0 hvA hvr hql heA
        go_upto_region 13 with fail
        rw [HQ.out]
        go_wp2_with fail
        refine HNEW.out.mono ?_
        rintro e y9 ⟨rfl, rr, t⟩
        clear HNEW hT1
        obtain ⟨g, hg_⟩ : ∃ g_, g_ = wr.heap.size := ⟨_, rfl⟩
        obtain ⟨B, hB_⟩ : ∃ B_, B_ = wr.heap.size := ⟨_, rfl⟩
        have hgw : w.heap.size ≤ g := by rw [hg_]; exact ee.size
        have hBw : w.heap.size ≤ B := by rw [hB_]; exact ee.size
        have hu := ownBelow hu t
        have ee := ee.trans (t.mono ee.size)
        clear t
        rw [← hg_] at rr ⊢
        have rr : RdrAt y9 B g ((encs l).take q, false) := by rw [hB_, ← hg_]; exact rr
        clear hg_ hB_
        have hg : g < y9.heap.size := rr.lt.1
        have hBg : B ≤ g := rr.lt.2
        have tt : TabsAt B y9 := ⟨w, HT.out, hBw, ee⟩
        have e0 : y9.grownBy y9 (some g) := ⟨rfl, rfl, rfl, Nat.le_refl _, fun _ _ _ => rfl⟩
        rw [← left_zero l q] at rr
        have HE := Lib.hid ee
        have hu := Lib.hid hu
        have huk := ownKind hu.out (show y9.heap[g]? = some (.cells _ _ _) from rr.choose_spec.choose_spec.1) (by decide)
        have huk := Lib.hid huk
        clear ee
        go_wp2_with fail
        go_loopw [10] (fun i wr => ∃ k : Nat, k ≤ n ∧ i = .int .i64 (k : Int) ∧ Hid ((encs (l.take k)).length ≤ q) ∧ RdrAt wr B g (leftAt l q k, false) ∧ TabsAt B wr ∧ y9.grownBy wr (some g)) (fun i _ => n - (intOf i).toNat)
        case atStart => exact ⟨0, Nat.zero_le _, rfl, Nat.zero_le _, rr, tt, e0⟩
        case round =>
          clear rr tt e0
          obtain ⟨k, hk, rfl, HKQ, rr, tt, e0⟩ := hrel
          by_cases hlt : k < n
          · have hkl : k < l.length := by rw [← HN.out]; exact hlt
            obtain ⟨bo, off, rfl, hbo, hr⟩ := rowsGet HR.out hkl
            have HX : Hid (CmOk w w.heap.size (l[k]'hkl)) := HL.out _ (List.getElem_mem hkl)
            have HF : Hid ((l[k]'hkl).formed = true) := HFO.out _ (List.getElem_mem hkl)
            have HLS := Lib.hid (left_step l q k hkl)
            have HLC := Lib.hid (left_cut l q k hkl HKQ.out)
            generalize l[k] = x at hr HX HF HLS HLC
            obtain ⟨T', hT'⟩ : ∃ T', T' = (encs (l.take (k + 1))).length := ⟨_, rfl⟩
            have HT' := Lib.hid hT'
            have hcell : (endsOf l n)[k]? = some (.int .i64 (T' : Int)) := by
              rw [hT']; unfold endsOf; rw [List.getElem?_map, List.getElem?_range hlt]; rfl
            rw [← hT'] at HLS HLC
            clear hT'
            go_upto_region 17 with fail
            refine wp_region_lit ?_
            go_wp2_with fail
            refine (takec_any B g wr _ rr tt).mono ?_
            rintro e z1 ⟨⟨y, rfl, hsy, oky⟩, rr, t⟩
            have e0 := grownTrans e0 t
            have tt := TabsAt.grown tt t hBg
            have hu1 := hu.out.kept e0 (Or.inr huk.out)
            have hEz : Below w.heap.size w z1 := HE.out.grown e0 HE.out.size (fun q hq => by injection hq with hq; omega)
            have hr := rangeB hr hEz hbo
            have okX := HX.out.below hEz (Nat.le_refl _)
            clear t
            have ee : Below z1.heap.size z1 z1 := Below.refl _ _
            dsimp only
            rename_i hK
            refine hK _ _ ?_
            clear hK
            iterate 3 go_step
            have e0s := ee.size
            have ee := ee.alloc ee.size (.cells #[.int .i64 0, .int .i64 0, .int .i64 0, .slice none 0 0, .slice none 0 0, .int .i64 0, .int .i64 0, .int .i64 0, .int .u64 0, .bool false] 37)
            have Zy := hpN z1 (.cells #[.int .i64 0, .int .i64 0, .int .i64 0, .slice none 0 0, .slice none 0 0, .int .i64 0, .int .i64 0, .int .i64 0, .int .u64 0, .bool false] 37) rfl
            generalize z1.alloc (.cells #[.int .i64 0, .int .i64 0, .int .i64 0, .slice none 0 0, .slice none 0 0, .int .i64 0, .int .i64 0, .int .i64 0, .int .u64 0, .bool false] 37) = z11 at Zy ee ⊢
            iterate 27 (first | with_reducible refine isStore (ty := 37) rfl ?_ | go_step)
            refine wpList_store_row rfl 37 _ _ rfl (z1.heap.size) (y.cells).toArray rfl rfl 37 _ Zy sizeCm (by rfl) (Cm.one _) ?_
            have N_ := setRow_heap z11 (z1.heap.size) _ (y.cells).toArray _ _ Zy
            have ee := belowSet (cs := (y.cells).toArray) ee Zy (by omega)
            clear Zy
            have Zy := N_
            clear N_
            generalize z11.setRow (z1.heap.size) (y.cells).toArray = z12 at Zy ee ⊢
            have hu2 := ownBelow hu1 ee
            obtain ⟨eb, eo, rfl, _, hce⟩ := (Rd.ofOwn hu2) k _ hcell
            have hkn1 : (0 : Int) ≤ (k : Int) := by omega
            have hkn2 : (k : Int) < (n : Int) := by omega
            clear hu1 hu2 hcell
            by_cases hgt : q < T'
            · have f1 : decide ((q : Int) < (T' : Int)) = true := by simp; omega
              obtain ⟨rs, hrs1, hrs2⟩ := HLC.out hgt
              obtain ⟨hc1, hc2⟩ := ctake_cut HF.out HX.out.fits hrs1 hrs2
              rw [hc2] at hsy
              have rr := RdrAt.below rr ee
              generalize (ctake (leftAt l q k, false)).2 = st at rr hc1
              obtain ⟨ls, f⟩ := st
              simp only at hc1
              subst hc1
              have HSM : Hid (∀ z, Below z1.heap.size z1 z → Calls Tryd.prog 31 #[.agg y.cells.toArray, .agg Cm.zero.cells.toArray] z fun e w' => e = .returned (.bool true) ∧ Below z.heap.size z w') := fun z hz => by
                have := csame_any y.k y.s y.q y.rs y.ws y.A1 y.c1 y.A2 y.c2 y.i y.j y.g y.st y.y 0 0 0 [] [] none 0 none 0 0 0 0 0 false z z1.heap.size hz.size (oky.below hz (Nat.le_refl _)) TxOk.zero
                have e1 : SameC y Cm.zero = true := hsy
                unfold SameC at e1
                rw [show decide (y.k = 0 ∧ (y.i = 0 ∧ y.j = 0) ∧ y.g = 0 ∧ y.st = 0 ∧ y.y = false ∧ y.s = 0 ∧ y.q = 0 ∧ y.rs = [] ∧ y.ws = []) = true from e1] at this
                exact this
              go_wp2_with fail
              refine (ok_any B g (ls, true) z12 rr).mono ?_
              rintro e z8 ⟨rfl, hw_⟩
              rw [← hw_]
              clear hw_ z8
              dsimp only
              rename_i hK
              refine hK _ _ ?_
              clear hK
              iterate 27 (first | with_reducible refine isLoad (ty := 37) rfl ?_ | go_step)
              refine wpList_load_g (by rfl) 37 _ rfl (z1.heap.size) 0 rfl (y.cells) _ (rowAt Zy) Tryd.underlying37 rfl sizeCm ?_
              go_wp2_with fail
              refine (HSM.out z12 ee).mono ?_
              rintro e z9 ⟨rfl, t⟩
              go_wp2_with fail
              go_ret
              exact ⟨rfl, hEz.trans ((ee.trans (t.mono ee.size)).mono hEz.size)⟩
            · have f1 : decide ((q : Int) < (T' : Int)) = false := by simp; omega
              have hle : T' ≤ q := by omega
              have hls := HLS.out hle
              obtain ⟨m, hm1, hm2⟩ := cback x (leftAt l q (k + 1)) HF.out HX.out.fits
              rw [← hls] at hm1
              rw [hm1] at rr hsy
              simp only at rr hsy
              have HSM : Hid (∀ z, Below z1.heap.size z1 z → Calls Tryd.prog 16 #[.agg y.cells.toArray, .agg x.cells.toArray] z fun e w' => e = .returned (.bool true) ∧ Below z.heap.size z w') := fun z hz => by
                have := rcsame_any y.k y.s y.q y.rs y.ws y.A1 y.c1 y.A2 y.c2 y.i y.j y.g y.st y.y x.k x.s x.q x.rs x.ws x.A1 x.c1 x.A2 x.c2 x.i x.j x.g x.st x.y z z1.heap.size hz.size (oky.below hz (Nat.le_refl _)) (CmOk.more (okX.below hz hEz.size) hEz.size)
                have e1 : SameC y x = true := SameC.trans hsy hm2
                unfold SameC at e1
                rw [e1] at this
                exact this
              have rr := RdrAt.below rr ee
              clear hm1 hm2 hls hsy hgt
              go_upto_region 20 with fail
              have rr := RdrAt.drewS rr
              have Zy : z12.drew.heap[z1.heap.size]? = some (.cells (y.cells).toArray 37) := Zy
              have ee := belowDrewS ee
              refine wp_region_held_drew (S := fun z' => z'.rangeAt (z1.heap.size) 0 y.cells ∧ z'.rangeAt bo (off + k * 10) x.cells) (by kernel_rfl) ⟨rowAt Zy, rangeB hr ee (by have := hEz.size; omega)⟩ (fun hH => ?_)
              clear hH
              generalize z12.drew = z13 at Zy rr ee ⊢
              refine wpAnyH_take (i := 0) (v := .pointer (some ⟨g, 0, none⟩)) rfl (by kernel_rfl) (by kernel_rfl) (by kernel_rfl) (fun _ _ _ h => h) (Or.inl ⟨by rfl, fun w_ hS_ => by (first | (go_simp; done) | (go_simp; rfl))⟩) ⟨rowAt Zy, rangeB hr ee (by have := hEz.size; omega)⟩ ?_
              try simp only [Act.put, List.getElem_toArray, List.getElem_cons_zero, List.getElem_cons_succ, List.setIfInBounds_toArray, List.set_cons_zero, List.set_cons_succ]
              refine wpAnyH_ready (rs := [1]) (by kernel_rfl) (by simp) ?_
              refine AllReadyH.cons rfl (fun K hK => ?_) AllReadyH.nil
              rw [if_pos (by rfl)]
              go_simp
              go_wp2_with (go_at_call 37; refine (ok_any B g _ z13 rr).mono ?_; rintro e z14 ⟨rfl, hw_⟩; rw [← hw_]; clear hw_ z14)
              refine hK.out _ _ ⟨rowAt Zy, rangeB hr ee (by have := hEz.size; omega)⟩ (fun hH => ?_)
              clear hK K hH
              try simp only [Act.put, List.getElem_toArray, List.getElem_cons_zero, List.getElem_cons_succ, List.setIfInBounds_toArray, List.set_cons_zero, List.set_cons_succ]
              refine wpAnyH_take (i := 2) (v := .bool false) rfl (by kernel_rfl) (by kernel_rfl) (by kernel_rfl) (fun _ _ _ h => h) (Or.inl ⟨by rfl, fun w_ hS_ => by (first | (go_simp; done) | (go_simp; rfl))⟩) ⟨rowAt Zy, rangeB hr ee (by have := hEz.size; omega)⟩ ?_
              try simp only [Act.put, List.getElem_toArray, List.getElem_cons_zero, List.getElem_cons_succ, List.setIfInBounds_toArray, List.set_cons_zero, List.set_cons_succ]
              refine wpAnyH_take (i := 3) (v := .bool false) rfl (by kernel_rfl) (by kernel_rfl) (by kernel_rfl) (fun _ _ _ h => h) (Or.inl ⟨by rfl, fun w_ hS_ => by (first | (go_simp; done) | (go_simp; rfl))⟩) ⟨rowAt Zy, rangeB hr ee (by have := hEz.size; omega)⟩ ?_
              try simp only [Act.put, List.getElem_toArray, List.getElem_cons_zero, List.getElem_cons_succ, List.setIfInBounds_toArray, List.set_cons_zero, List.set_cons_succ]
              refine wpAnyH_take (i := 4) (v := .agg ((y.cells)).toArray) rfl (by kernel_rfl) (by kernel_rfl) (by kernel_rfl) (fun _ _ _ h => h) (yieldsIf_load_mid (by rfl) 37 _ rfl (z1.heap.size) 0 rfl ((y.cells)) _ (fun _ h => h.1) Tryd.underlying37 rfl sizeCm) ⟨rowAt Zy, rangeB hr ee (by have := hEz.size; omega)⟩ ?_
              try simp only [Act.put, List.getElem_toArray, List.getElem_cons_zero, List.getElem_cons_succ, List.setIfInBounds_toArray, List.set_cons_zero, List.set_cons_succ]
              refine wpAnyH_take (i := 5) (v := .slice (some ⟨bo, off, none⟩) n c) rfl (by kernel_rfl) (by kernel_rfl) (by kernel_rfl) (fun _ _ _ h => h) (Or.inl ⟨by rfl, fun w_ hS_ => by (first | (go_simp; done) | (go_simp; rfl))⟩) ⟨rowAt Zy, rangeB hr ee (by have := hEz.size; omega)⟩ ?_
              try simp only [Act.put, List.getElem_toArray, List.getElem_cons_zero, List.getElem_cons_succ, List.setIfInBounds_toArray, List.set_cons_zero, List.set_cons_succ]
              refine wpAnyH_take (i := 6) (v := .int .i64 (k : Int)) rfl (by kernel_rfl) (by kernel_rfl) (by kernel_rfl) (fun _ _ _ h => h) (Or.inl ⟨by rfl, fun w_ hS_ => by (first | (go_simp; done) | (go_simp; rfl))⟩) ⟨rowAt Zy, rangeB hr ee (by have := hEz.size; omega)⟩ ?_
              try simp only [Act.put, List.getElem_toArray, List.getElem_cons_zero, List.getElem_cons_succ, List.setIfInBounds_toArray, List.set_cons_zero, List.set_cons_succ]
              refine wpAnyH_take (i := 7) (v := .pointer (some ⟨bo, off + k * 10, none⟩)) rfl (by kernel_rfl) (by kernel_rfl) (by kernel_rfl) (fun _ _ _ h => h) (Or.inl ⟨by rfl, fun w_ hS_ => by (first | (go_simp; done) | (go_simp; rfl))⟩) ⟨rowAt Zy, rangeB hr ee (by have := hEz.size; omega)⟩ ?_
              try simp only [Act.put, List.getElem_toArray, List.getElem_cons_zero, List.getElem_cons_succ, List.setIfInBounds_toArray, List.set_cons_zero, List.set_cons_succ]
              refine wpAnyH_take (i := 8) (v := .agg (x.cells).toArray) rfl (by kernel_rfl) (by kernel_rfl) (by kernel_rfl) (fun _ _ _ h => h) (yieldsIf_load_mid (by rfl) 37 _ rfl (bo) (off + k * 10) rfl (x.cells) _ (fun _ h => h.2) Tryd.underlying37 rfl sizeCm) ⟨rowAt Zy, rangeB hr ee (by have := hEz.size; omega)⟩ ?_
              try simp only [Act.put, List.getElem_toArray, List.getElem_cons_zero, List.getElem_cons_succ, List.setIfInBounds_toArray, List.set_cons_zero, List.set_cons_succ]
              refine wpAnyH_ready (rs := [9]) (by kernel_rfl) (by simp) ?_
              refine AllReadyH.cons rfl (fun K hK => ?_) AllReadyH.nil
              rw [if_pos (by rfl)]
              go_simp
              go_wp2_with (go_at_call 16; refine (HSM.out z13 ee).mono ?_; rintro e z15 ⟨rfl, t⟩)
              have Zy := hpB Zy t
              have ee := ee.trans (t.mono ee.size)
              have rr := RdrAt.below rr t
              clear t
              refine hK.out _ _ ⟨rowAt Zy, rangeB hr ee (by have := hEz.size; omega)⟩ (fun hH => ?_)
              clear hK K hH
              try simp only [Act.put, List.getElem_toArray, List.getElem_cons_zero, List.getElem_cons_succ, List.setIfInBounds_toArray, List.set_cons_zero, List.set_cons_succ]
              refine wpAnyH_take (i := 10) (v := .bool false) rfl (by kernel_rfl) (by kernel_rfl) (by kernel_rfl) (fun _ _ _ h => h) (Or.inl ⟨by rfl, fun w_ hS_ => by (first | (go_simp; done) | (go_simp; rfl))⟩) ⟨rowAt Zy, rangeB hr ee (by have := hEz.size; omega)⟩ ?_
              try simp only [Act.put, List.getElem_toArray, List.getElem_cons_zero, List.getElem_cons_succ, List.setIfInBounds_toArray, List.set_cons_zero, List.set_cons_succ]
              refine wpAnyH_take (i := 11) (v := .bool false) rfl (by kernel_rfl) (by kernel_rfl) (by kernel_rfl) (fun _ _ _ h => h) (Or.inl ⟨by rfl, fun w_ hS_ => by (first | (go_simp; done) | (go_simp; rfl))⟩) ⟨rowAt Zy, rangeB hr ee (by have := hEz.size; omega)⟩ ?_
              try simp only [Act.put, List.getElem_toArray, List.getElem_cons_zero, List.getElem_cons_succ, List.setIfInBounds_toArray, List.set_cons_zero, List.set_cons_succ]
              refine wpAnyH_done (by kernel_rfl) ?_ _
              go_wp2_with fail
              go_roundw
              case rel => exact ⟨k + 1, by omega, by go_num, by show _ ≤ _; rw [← HT'.out]; exact hle, rr, TabsAt.belowS tt ee, grownBelow e0 ee⟩
              case measure => simp [intOf]; omega
          · obtain rfl : n = k := by omega
            have hz : leftAt l q n = [] := by unfold leftAt; rw [HN.out, List.drop_length]; simp [encs]
            rw [hz] at rr
            have hEz : Below w.heap.size w wr := HE.out.grown e0 HE.out.size (fun q hq => by injection hq with hq; omega)
            go_wp2_with fail
            refine (end_any B g _ wr rr).mono ?_
            rintro e z8 ⟨rfl, hw_⟩
            rw [← hw_]
            clear hw_ z8
            go_wp2_with fail
            go_ret
            exact ⟨rfl, hEz⟩
theorem commandBack_walk (W : World) (hT : Tabs W) (v0 v1 : Value) (h0 : Arg W 76 v0) (h1 : Arg W 77 v1) :
    Calls Tryd.prog 9 #[v0, v1] W fun e W' => e = .returned (.bool true) ∧ Below W.heap.size W W' := by
  obtain ⟨A, c, ls, rfl, h2, h3, h4, h5⟩ := h0.cms
  obtain ⟨a, rfl, ha⟩ := h1.u16 Tryd.underlying77
  exact back_mid A c ls a ha W h2 h3 h4 h5 hT
end Go.Proofs.YtkfnepmiigkdfaaDoor
