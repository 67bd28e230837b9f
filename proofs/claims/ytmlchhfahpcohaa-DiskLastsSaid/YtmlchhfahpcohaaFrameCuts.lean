/- The walk of the law FrameCuts. -/
import Derived.Test.YtmlchhfahpcohaaFrameTurned
namespace Go.Proofs.Ytmlchhfahpcohaa
open Go.RowKit Go.ChangeShapes Go.WideShapes Go.ChangeAt Go.Deep
set_option linter.unusedSimpArgs false
set_option linter.unusedVariables false

theorem info_int : (Try.prog.info? 3).map (fun i => (i.zero, i.size, i.bytes)) = some (some (.int .i64 0), 1, 8) := by kernel_rfl
/-- cells that read as a slice of bytes -/
theorem Cel.bytes {W : World} {t : TypeId} {v : Value} (h : Cel W t [v]) (ht : Try.prog.underlying t = some (.slice 5)) : ∃ l, SlB W W.heap.size v l := by
  obtain ⟨H, enc, fuel, x, h⟩ := h
  rcases open_ints ht Try.underlying5 (by kernel_rfl) h with ⟨hcs, _⟩ | ⟨x, n, c, zs, hcs, _, hl, hm, hz, _, hcell, hwz⟩
  · simp at hcs
    subst hcs
    exact ⟨[], SlB.nil⟩
  · simp at hcs
    subst hcs
    have hz' : zs.length = c := by simpa using hz
    have e : (zs.take n).map (Value.int .u8) = bc ((zs.take n).map fun z => UInt8.ofNat z.toNat) := by
      simp only [bc, List.map_map]
      refine List.map_congr_left fun z hz => ?_
      have := bounds_u8 (hwz z (List.mem_of_mem_take hz))
      simp only [Function.comp]
      have e2 : ((UInt8.ofNat z.toNat).toNat : Int) = z := by rw [UInt8.toNat_ofNat']; omega
      rw [e2]
    have hlen : ((zs.take n).map fun z => UInt8.ofNat z.toNat).length = n := by simp; omega
    refine ⟨(zs.take n).map fun z => UInt8.ofNat z.toNat, some x, c, by rw [hlen], by rw [hlen]; exact hl, hm, (fun h => by cases h), ?_⟩
    rw [← e]
    intro j u hu
    have hj : j < n := by have := (List.getElem?_eq_some_iff.1 hu).1; simp at this; omega
    have h0 := hcell 0 (by omega)
    obtain ⟨b, off, rfl⟩ := spotNone h0
    have hj' := hcell j (by omega)
    rw [Addr.add_lit] at hj'
    refine ⟨b, off, rfl, World.block_lt_of_cell? W _ hj', ?_⟩
    rw [hj']
    rw [List.getElem?_map, List.getElem?_take, if_pos hj] at hu
    have : zs[j]? = some (zs.getD j 0) := by
      rw [List.getD_eq_getElem?_getD, List.getElem?_eq_getElem (show j < zs.length by omega)]; rfl
    rw [this] at hu
    simpa using hu
/-- a slice of slices of bytes that came in -/
theorem Arg.lists {W : World} {v : Value} (h : Arg W 48 v) : ∃ (A : Option Addr) (c : Nat) (ls : List (List UInt8)), v = .slice A ls.length c ∧ c ≤ maxLen ∧ SlL W W.heap.size (.slice A ls.length c) ls := by
  obtain ⟨A, n, c, rfl, hc⟩ := h.slice Try.underlying48
  obtain ⟨hn, hm, hA, hat⟩ := hc.sliceAt Try.underlying48 1 (by kernel_rfl) (by omega)
  by_cases h0 : 0 < n
  · obtain ⟨b, off, rfl, hb, hi⟩ := hat h0
    have hex : ∀ i, ∃ f : Value × List UInt8, i < n → (W.cell? ⟨b, off + i, none⟩ = some f.1 ∧ SlB W W.heap.size f.1 f.2) := by
      intro i
      by_cases hlt : i < n
      · obtain ⟨cs', hcl, hce, hj⟩ := hi i hlt
        match cs', hcl with
        | [v], _ =>
          obtain ⟨l, hl⟩ := hce.bytes Try.underlying22
          exact ⟨(v, l), fun _ => ⟨by have := hj 0 (by omega); simpa using this, hl⟩⟩
      · exact ⟨(.bool true, []), fun h => absurd h hlt⟩
    obtain ⟨f, hf⟩ := Classical.axiomOfChoice hex
    refine ⟨some ⟨b, off, none⟩, c, (List.range n).map fun i => (f i).2, by simp, hm, some ⟨b, off, none⟩, c, (List.range n).map fun i => (f i).1, rfl, by simpa using hn, ?_, ⟨by simp, ?_⟩⟩
    · intro j u hu
      have hj : j < n := by have := (List.getElem?_eq_some_iff.1 hu).1; simpa using this
      refine ⟨b, off, rfl, hb, ?_⟩
      rw [(hf j hj).1]
      simpa [hj] using hu
    · intro i v l h1 h2
      have hi' : i < n := by have := (List.getElem?_eq_some_iff.1 h1).1; simpa using this
      simp [hi'] at h1 h2
      rw [← h1, ← h2]
      exact (hf i hi').2
  · obtain rfl : n = 0 := by omega
    exact ⟨A, c, [], rfl, hm, A, c, [], rfl, by simp, Rd.nil, SlBs.nil⟩

theorem SlL.first {w : World} {B n c k : Nat} {A : Option Addr} {ls : List (List UInt8)} (h : SlL w B (.slice A n c) ls) (hk : k ≤ n) : SlL w B (.slice A k c) (ls.take k) := by
  obtain ⟨A', c', vs, e, h1, h2, h3⟩ := h
  injection e with e1 e2 e3
  subst e1; subst e2; subst e3
  have hl : (ls.take k).length = k := by rw [List.length_take]; omega
  exact ⟨A, c, vs.take k, by rw [hl], by rw [hl]; omega, h2.take k, h3.take k⟩

def ends (ls : List (List UInt8)) (k : Nat) : List Value := (List.range k).map fun j => Value.int .i64 ((F.cat (ls.take (j + 1))).length : Int)
theorem ends_succ (ls : List (List UInt8)) (k : Nat) : ends ls (k + 1) = ends ls k ++ [.int .i64 ((F.cat (ls.take (k + 1))).length : Int)] := by
  unfold ends; rw [List.range_succ, List.map_append]; rfl
theorem ends_get (ls : List (List UInt8)) (k j : Nat) (h : j < k) : (ends ls k)[j]? = some (.int .i64 ((F.cat (ls.take (j + 1))).length : Int)) := by
  unfold ends; simp [h]
theorem F.cat_le (ls : List (List UInt8)) (h : ∀ b ∈ ls, b.length ≤ 1000) : (F.cat ls).length ≤ 1008 * ls.length := by
  induction ls with
  | nil => simp [F.cat]
  | cons b ls ih =>
    have h1 := ih (fun x hx => h x (by simp [hx]))
    have h2 := h b (by simp)
    show (((F.wrap b).1) ++ F.cat ls).length ≤ _
    rw [List.length_append, F.wrap_len (by omega), List.length_cons]
    omega

set_option maxHeartbeats 3200000 in
theorem fcuts (A : Option Addr) (c : Nat) (ls : List (List UInt8)) (a : Nat) (w : World) (ha : a < 65536) (hm : c ≤ maxLen) (h : SlL w w.heap.size (.slice A ls.length c) ls) :
    Calls Try.prog 14 #[.slice A ls.length c, .int .u16 (a : Int)] w fun e w' => e = .returned (.bool true) ∧ Below w.heap.size w w' := by
  unfold maxLen at hm
  by_cases hl : 20 < ls.length
  · clear h
    generalize ls.length = n at *
    go_enter Try.func14, Try.ntmps14
    go_wp2_with fail
    refine (f_awake _).mono ?_
    rintro e w1 ⟨rfl, hb1⟩
    go_wp2_with fail
    refine (f_awake _).mono ?_
    rintro e w2 ⟨rfl, hb2⟩
    go_wp2_with fail
    go_ret
    exact ⟨rfl, hb1.trans (hb2.mono hb1.size)⟩
  · obtain ⟨i0, hi, hz0, hz1, hz2⟩ := info_parts info_u8
    obtain ⟨i1, hj, hy0, hy1, hy2⟩ := info_parts info_int
    have H := Lib.hid h
    obtain ⟨A', c', vs, e, hc, hr, hs⟩ := h
    injection e with e1 e2 e3
    subst e1; subst e3
    clear e2
    obtain ⟨n, hn⟩ : ∃ n, n = ls.length := ⟨_, rfl⟩
    have HN := Lib.hid hn
    rw [← hn] at H hc hl ⊢
    clear hn
    have HS := Lib.hid hs
    clear hs
    go_enter Try.func14, Try.ntmps14
    go_wp2_with fail
    refine (f_awake _).mono ?_
    rintro e w1 ⟨rfl, b1⟩
    go_wp2_with fail
    go_loopw [5, 6, 7] (fun bv ev iv wr => ∃ k : Nat, k ≤ n ∧ iv = .int .i64 (k : Int) ∧ wr.ownsRow w.heap.size 5 1 bv (F.cat (ls.take k)).length (bc (F.cat (ls.take k))) ∧ wr.ownsRow w.heap.size 3 1 ev k (ends ls k) ∧ Hid (∀ b ∈ ls.take k, b.length ≤ 1000) ∧ Below w.heap.size w wr) (fun _ _ i _ => n - (intOf i).toNat)
    case atStart => exact ⟨0, Nat.zero_le _, rfl, World.ownsRow_nil _ _ _ _, World.ownsRow_nil _ _ _ _, fun b hb => by simp at hb, b1⟩
    case round =>
      obtain ⟨k, hk, rfl, ownb, owne, HL, bel⟩ := hrel
      by_cases hkn : k < n
      · have k1 : k < ls.length := by rw [← HN.out]; exact hkn
        have k2 : k < vs.length := by rw [HS.out.1]; exact k1
        obtain ⟨ab, ao, hAe, hab, hca⟩ := hr.at_ k2
        have hsl := HS.out.2 k _ _ (List.getElem?_eq_getElem k2) (List.getElem?_eq_getElem k1)
        have hcat := F.cat_le (ls.take k) HL.out
        have hcat2 : (F.cat (ls.take k)).length ≤ 1008 * k := by simp at hcat; omega
        have hsn : ls[k].length ≤ 1000 → F.cat (ls.take (k + 1)) = F.cat (ls.take k) ++ (F.wrap ls[k]).1 ∧ (∀ b ∈ ls.take (k + 1), b.length ≤ 1000) := fun hle => by
          rw [List.take_succ_eq_append_getElem k1]
          refine ⟨F.cat_snoc _ _, fun b hb => ?_⟩
          rcases List.mem_append.1 hb with h | h
          · exact HL.out b h
          · simp at h; subst h; exact hle
        have HSN := Lib.hid hsn
        clear hsn hcat
        obtain ⟨lA, lc, hve, hle, hlm, hlA, hlr⟩ := id hsl
        rw [hve] at hca hsl
        generalize ls[k]'k1 = l at *
        have hca2 := cellB (bel.mono (Nat.le_refl _)) hca
        clear hca hve hlA hlr k1 k2
        subst hAe
        have hcat3 := hcat2
        have HW : l.length ≤ 1000 → Hid (∀ w', Below w.heap.size w w' → Calls Try.prog 32 #[.slice lA l.length lc] w' (MadeE w' ((F.wrap l).1, 0))) := fun hle w' b => by
          have := wrap_s (hsl.below b) (by omega) b.size
          rwa [show F.wrap l = ((F.wrap l).1, 0) from by unfold F.wrap; rw [if_neg (by omega)]] at this
        have HWL : l.length ≤ 1000 → Hid ((F.wrap l).1.length = 8 + l.length) := fun h => F.wrap_len (by omega)
        generalize (F.wrap l).1 = x at *
        obtain ⟨m, hme⟩ : ∃ m, m = l.length := ⟨_, rfl⟩
        rw [← hme] at HW HWL hca2 HSN hle
        clear hme hsl
        have hk0 : (0 : Int) ≤ (k : Int) := by omega
        by_cases hbig : 1000 < m
        · clear HW HWL HSN
          go_wp2_with fail
          go_ret
          exact ⟨rfl, bel⟩
        · have HW := HW (by omega)
          have HWL := HWL (by omega)
          have HSN := Lib.hid (HSN.out (by omega))
          go_wp2_with fail
          refine (HW.out wr bel).mono ?_
          rintro e w2 ⟨v2, rfl, own2, b2⟩
          have ownb := ownKept ownb b2
          have owne := ownKept owne b2
          have bel2 := bel.trans (b2.mono bel.size)
          have own2 : w2.ownsRow wr.heap.size 5 1 v2 (8 + m) (bc x) := by rw [← HWL.out]; exact own2
          obtain ⟨A2, c2, rfl, hc2, hA2, hm2⟩ := ownShape own2
          go_wp2_with (at_builtin; refine wpList_append_rd _ rfl _ _ 22 rfl w.heap.size 5 i0 (.int .u8 0) 1 Try.underlying22 hi hz0 hz1 hz2 rfl _ _ _ rfl ownb w2.heap.size A2 (8 + m) c2 (bc x) rfl ?d1 (fun h => (hA2 h).2) (Rd.ofOwn own2) (bc_one _) ?c1 ?c2 ?c3 ?_)
          case d1 => rw [bc_len, HWL.out]
          case c1 => unfold maxLen; omega
          case c2 => omega
          case c3 => exact bel2.size
          intro v3 w3 own3 g3
          have own3 : w3.ownsRow w.heap.size 5 1 v3 (F.cat (ls.take (k + 1))).length (bc (F.cat (ls.take (k + 1)))) := by
            rw [HSN.out.1, bc_app, List.length_append, HWL.out]; exact own3
          have owne := owne.kept g3 (own_ne ownb owne (by decide))
          have bel3 := bel2.grown g3 bel2.size (fun q hq => (ownb.lt q hq).1)
          obtain ⟨A3, c3, rfl, hc3, _, _⟩ := ownShape own3
          have HES := Lib.hid (ends_succ ls k)
          have hT : (F.cat (ls.take (k + 1))).length ≤ 20160 := by rw [HSN.out.1, List.length_append, HWL.out]; omega
          generalize hTe : (F.cat (ls.take (k + 1))).length = T at *
          have HTE := Lib.hid hTe
          clear hTe g3 ownb bel2 own2 b2 bel hcat2 hcat3
          go_wp2_with (at_builtin; refine wpList_append_own _ rfl _ _ 68 rfl w.heap.size 3 i1 (.int .i64 0) 1 8 Try.underlying68 hj hy0 hy1 hy2 rfl (by decide) _ _ _ rfl (owne.alloc _) ⟨w3.heap.size, 0, none⟩ 1 1 [.int .i64 (T : Int)] rfl rfl ?c1 ?c2 ?c3 ?c4 ?c5 ?_)
          case c1 => exact oneAt _ _ _
          case c2 => intro u hu; simp at hu; subst hu; rfl
          case c3 => unfold maxLen; omega
          case c4 => omega
          case c5 => have := bel3.size; simp; omega
          intro v4 w4 own4 g4 _
          have own3' := (own3.alloc (.cells #[.int .i64 (T : Int)] 3)).kept g4 (own_ne (owne.alloc (.cells #[.int .i64 (T : Int)] 3)) (own3.alloc (.cells #[.int .i64 (T : Int)] 3)) (by decide))
          have bel4 : Below w.heap.size w w4 := (bel3.alloc bel3.size _).grown g4 (by have := bel3.size; simp; omega) (fun q hq => (owne.lt q hq).1)
          clear g4 owne own3 bel3
          go_wp2_with fail
          go_roundw
          case rel => exact ⟨k + 1, by omega, by go_num, by rw [HTE.out]; exact own3', by rw [HES.out]; exact own4, HSN.out.2, bel4⟩
          case measure => simp [intOf]; omega
      · obtain rfl : k = n := by omega
        have htk : ls.take k = ls := List.take_of_length_le (by rw [HN.out]; exact Nat.le_refl _)
        rw [htk] at ownb HL
        have hcat := F.cat_le ls HL.out
        have hcat2 : (F.cat ls).length ≤ 20160 := by rw [← HN.out] at hcat; omega
        clear htk hcat
        have sb := SlB.ofOwn ownb
        obtain ⟨Ab, cb, rfl, hcb, hAb, hmb⟩ := ownShape ownb
        obtain ⟨T, hTe⟩ : ∃ T, T = (F.cat ls).length := ⟨_, rfl⟩
        have HTE := Lib.hid hTe
        rw [← hTe] at sb hcb hAb hcat2 ⊢
        obtain ⟨q, hq⟩ : ∃ q, q = a % (T + 1) := ⟨_, rfl⟩
        have hqT : q ≤ T := by have := Nat.mod_lt a (show 0 < T + 1 by omega); omega
        have hqe : (a : Int) % ((T : Int) + 1) = (q : Int) := by rw [hq]; simp
        have HQ := Lib.hid hqe
        have hT1 : ((T : Int) + 1 == 0) = false := by simp; omega
        clear hTe hq hqe ownb
        obtain ⟨Ae, ce, rfl, hce, hAe, hme⟩ := ownShape owne
        have re := Rd.ofOwn owne
        have HX := Lib.hid (fun (s : SlB wr wr.heap.size (.slice Ab q cb) ((F.cat ls).take q)) => all_s s (by simp; omega) (Nat.le_refl _))
        have HX := Lib.hid (HX.out (sb.first hqT))
        have HLB : Hid (∀ b ∈ ls, b.length ≤ 60000) := fun b hb => by have := HL.out b hb; omega
        have HLL := Lib.hid (fun j (hj : j ≤ k) => (SlL.first H.out hj).below bel)
        clear owne sb HTE HL H hAb hAe hmb hme
        have hq0 : (0 : Int) ≤ (q : Int) := by omega
        go_wp2_with fail
        rw [HQ.out]
        go_loop [11, 12] (fun jv tv => ∃ j : Nat, j ≤ k ∧ jv = .int .i64 (j : Int) ∧ tv = .int .i64 ((F.cat (ls.take j)).length : Int) ∧ (F.cat (ls.take j)).length ≤ q) (fun jv _ => k - (intOf jv).toNat)
        case atStart => exact ⟨0, Nat.zero_le _, rfl, rfl, by simp [F.cat]⟩
        case round =>
          obtain ⟨j, hjk, rfl, rfl, hTj⟩ := hrel
          by_cases hjk2 : j < k
          · have jl : j < ls.length := by rw [← HN.out]; exact hjk2
            have hsucc := F.cat_take_succ ls j jl HLB.out
            obtain ⟨eb, eo, rfl, _, hec⟩ := re j _ (ends_get ls k j hjk2)
            have hfin := F.all_cuts ls j q HLB.out (by omega) hTj
            obtain ⟨T', hT'⟩ : ∃ T', T' = (F.cat (ls.take (j + 1))).length := ⟨_, rfl⟩
            have HT' := Lib.hid hT'
            rw [← hT'] at hec hsucc
            have hT'b : T' ≤ 20160 + 60008 := by have := HLB.out _ (List.getElem_mem jl); omega
            have HFIN : Hid (q < T' → F.all ((F.cat ls).take q) = (ls.take j, (F.cat (ls.take j)).length)) := fun h => hfin (fun _ => by omega)
            obtain ⟨Tj, hTje⟩ : ∃ Tj, Tj = (F.cat (ls.take j)).length := ⟨_, rfl⟩
            rw [← hTje] at HFIN hTj ⊢
            clear hfin hT' hsucc hTje jl re
            have hj0 : (0 : Int) ≤ (j : Int) := by omega
            have hj1 : (j : Int) < (k : Int) := by omega
            by_cases hle : T' ≤ q
            · have hle2 : (T' : Int) ≤ (q : Int) := by omega
              go_wp2_with fail
              go_round
              case rel => exact ⟨j + 1, by omega, by go_num, by rw [HT'.out], by rw [← HT'.out]; exact hle⟩
              case measure => simp [intOf]; omega
            · have hle2 : ¬ (T' : Int) ≤ (q : Int) := by omega
              have HFIN := Lib.hid (HFIN.out (by omega))
              rw [HFIN.out] at HX
              go_wp2_with fail
              refine HX.out.mono ?_
              rintro e w5 ⟨v5, us, rfl, own5, O5, b5⟩
              have b5' := bel.trans (b5.mono bel.size)
              have S5 := SlL.ofOwn own5 O5.reads (Nat.le_refl _)
              have S6 := (HLL.out j (by omega)).belowM b5 bel.size
              clear own5 O5
              go_wp2_with fail
              refine (sames_s S5 S6 (fun x hx => by have := HLB.out x (List.mem_of_mem_take hx); omega) (by simp; omega)).mono ?_
              rintro e w6 ⟨rfl, k6, rfl⟩
              go_wp2_with fail
              go_ret
              exact ⟨rfl, belowDrewN b5' _⟩
          · obtain rfl : j = k := by omega
            have hfin := F.all_cuts ls j q HLB.out (by rw [← HN.out]; exact Nat.le_refl _) hTj (fun h => by rw [← HN.out] at h; omega)
            obtain ⟨Tj, hTje⟩ : ∃ Tj, Tj = (F.cat (ls.take j)).length := ⟨_, rfl⟩
            rw [← hTje] at hfin hTj ⊢
            rw [hfin] at HX
            clear hfin hTje re
            go_wp2_with fail
            refine HX.out.mono ?_
            rintro e w5 ⟨v5, us, rfl, own5, O5, b5⟩
            have b5' := bel.trans (b5.mono bel.size)
            have S5 := SlL.ofOwn own5 O5.reads (Nat.le_refl _)
            have S6 := (HLL.out j (by omega)).belowM b5 bel.size
            clear own5 O5
            go_wp2_with fail
            refine (sames_s S5 S6 (fun x hx => by have := HLB.out x (List.mem_of_mem_take hx); omega) (by simp; omega)).mono ?_
            rintro e w6 ⟨rfl, k6, rfl⟩
            go_wp2_with fail
            go_ret
            exact ⟨rfl, belowDrewN b5' _⟩

theorem frameCuts_walk (W : World) (v0 v1 : Value) (h0 : Arg W 48 v0) (h1 : Arg W 61 v1) :
    Calls Try.prog 14 #[v0, v1] W fun e W' => e = .returned (.bool true) ∧ Below W.heap.size W W' := by
  obtain ⟨A, c, ls, rfl, hm, hs⟩ := h0.lists
  obtain ⟨a, rfl, ha⟩ := h1.u16 Try.underlying61
  exact fcuts A c ls a W ha hm hs
end Go.Proofs.Ytmlchhfahpcohaa
