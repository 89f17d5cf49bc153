/- The document's Encode, walked. -/
import Derived.Test.YtbeibfhnbnmocaaDoorPunyRefD
set_option linter.unusedVariables false
set_option linter.unusedSimpArgs false
set_option maxRecDepth 100000
namespace Go.Proofs.YtbeibfhnbnmocaaDoor
open Go.RowKit Go.Proofs.YtbeibfhnbnmocaaDoor.Plain Puny

def by8 (l : List UInt8) : List Int := l.map fun c => (c.toNat : Int)
theorem by8_append (a b : List UInt8) : by8 (a ++ b) = by8 a ++ by8 b := List.map_append
theorem by8_len (a : List UInt8) : (by8 a).length = a.length := List.length_map _
theorem info_u8 : (Tryd.prog.info? 5).map (fun i => (i.zero, i.size, i.bytes)) = some (some (.int .u8 0), 1, 1) := by kernel_rfl
theorem row_fresh8 (w : World) (l : List Int) : RowI .u8 5 (w.alloc (.cells (l.map (Value.int .u8)).toArray 5)) (some ⟨w.heap.size, 0, none⟩) l := by
  refine .inr ⟨w.heap.size, 0, rfl, ⟨_, Blk.new w _ _⟩, fun i y hy => ?_⟩
  rw [(Blk.new w 5 (l.map (Value.int .u8)).toArray).cell]
  simp [hy]
theorem conv_bytes {w : World} {B : Nat} {v : Value} {l : List UInt8} (h : OwnI w B 5 .u8 v (by8 l)) : (convert 44 9 v).run Tryd.prog w = .ok (.string ⟨l.toArray⟩) w := by
  have hnum : strOfNums (by8 l) = ⟨l.toArray⟩ := by
    unfold strOfNums by8
    rw [List.map_map]
    congr 2
    conv => rhs; rw [← List.map_id l]
    exact List.map_congr_left fun c _ => by simp
  obtain ⟨A, c, rfl, hr, hc, hA⟩ := h.row
  rw [by8_len] at h ⊢
  rcases h.2 with ⟨e, h0⟩ | ⟨g, cap, cur, e, hb, _⟩
  · rw [e, run_convert_bytes_nil w _ _ Tryd.underlying44 Tryd.underlying5 _ _ _ Tryd.underlying9]
    have : l = [] := List.eq_nil_of_length_eq_zero (by rw [by8_len] at h0; exact h0)
    subst this
    rfl
  · injection e with e1 _ _
    subst e1
    rw [← hnum]
    refine run_convert_bytes_arg (P := Tryd.prog) w 44 5 Tryd.underlying44 Tryd.underlying5 g 0 l.length c (by8 l) (by8_len l) (fun i hi => ?_) 9 Tryd.underlying9
    have hy : (by8 l)[i]? = some ((by8 l).getD i 0) := by
      rw [List.getD_eq_getElem?_getD, List.getElem?_eq_getElem (by rw [by8_len]; exact hi)]
      rfl
    obtain ⟨b, off, e, _, hcell⟩ := hr.at_ hy
    cases e
    exact hcell
set_option maxHeartbeats 8000000 in
theorem ref_even {A : Option Addr} {c : Nat} {l : List Nat} (w : World) (hr : RowAt iC 1 w A (l.map fun n : Nat => (n : Int))) (hl : l.length ≤ 500) (hc : l.length ≤ c) (hs : ∀ c ∈ l, scalar c = true) :
    Calls Tryd.prog 7 #[.slice A l.length c] w fun e w' => e = .returned (.tuple #[.string ⟨(encL l).toArray⟩, .int .i64 0]) ∧ Below w.heap.size w w' := by
  have HR := Lib.hid hr
  have HS := Lib.hid hs
  have HLS := Lib.hid (fun (m : Nat) (w' : World) (hb : Below w.heap.size w w') => least_calls (A := A) (c := c) l m w' (RowAt.keep hr hb) (by omega) hc (fun c hc => scalar_le (hs c hc)))
  obtain ⟨n, hn⟩ : ∃ n, n = l.length := ⟨_, rfl⟩
  have HN := Lib.hid hn
  rw [← hn] at hl hc HLS ⊢
  obtain ⟨T, hT⟩ : ∃ T, T = encL l := ⟨_, rfl⟩
  have HT := Lib.hid hT
  rw [← hT]
  clear hr hs hn hT
  go_enter Tryd.func7, Tryd.ntmps7
  go_wp2_with fail
  go_loopg [4, 5] n (fun k v4 v5 w' => Hid (∃ p : Nat, v5 = .int .i64 p ∧ k = n - p ∧ p ≤ n ∧ OwnI w' w.heap.size 5 .u8 v4 (by8 (basics l p)) ∧ Below w.heap.size w w'))
  case atStart => exact ⟨0, rfl, rfl, Nat.zero_le _, OwnI.nil _ _ _ _, Below.refl _ _⟩
  case round =>
    obtain ⟨p, rfl, hk, hp, hown, hbe⟩ := hrel.out
    clear hrel
    have HNM := Lib.hid hk
    have HO := Lib.hid hown
    have HBE := Lib.hid hbe
    clear hk hown hbe
    by_cases hlt : p < n
    · obtain ⟨x, hx⟩ : ∃ x, l[p]? = some x := ⟨_, List.getElem?_eq_getElem (by rw [← HN.out]; exact hlt)⟩
      have hlt' : (p : Int) < (n : Int) := by omega
      obtain ⟨ba, off, rfl, hbl, hcell⟩ := at32 (RowAt.keep HR.out HBE.out) (i := p) (y := (x : Int)) (by rw [List.getElem?_map, hx]; rfl)
      have hst := basics_step hx
      have hbn := basics_len l p
      rw [← HN.out] at hbn
      have hsc := scalar_calls (x : Int) wr
      rw [valid_scalar, HS.out x (List.mem_of_getElem? hx)] at hsc
      have HSC := Lib.hid hsc
      have HX := Lib.hid hx
      clear hx hsc
      go_wp2_with fail
      refine HSC.out.mono ?_
      rintro e w2 ⟨rfl, hb⟩
      have HO2 := Lib.hid (OwnI.below HO.out hb)
      have HBE2 := Lib.hid (belowOn HBE.out HBE.out.size hb)
      clear hb HSC HO hcell hbl
      obtain ⟨ba', off', e1, hbl, hcell⟩ := at32 (RowAt.keep HR.out HBE2.out) (i := p) (y := (x : Int)) (by rw [List.getElem?_map, HX.out]; rfl)
      cases e1
      clear HBE
      by_cases hlow : x < 128
      · have hlow' : (x : Int) < 128 := by omega
        rw [if_pos hlow] at hst
        have w8 : IntKind.u8.wrap (x : Int) = (x : Int) := by rw [IntKind.wrap_u8]; omega
        have HST := Lib.hid (show by8 (basics l (p + 1)) = by8 (basics l p) ++ [(x : Int)] by
          rw [hst, by8_append]
          show _ ++ [((UInt8.ofNat x).toNat : Int)] = _
          rw [low_nat hlow])
        have HBN := Lib.hid (show (by8 (basics l p)).length ≤ 500 by rw [by8_len]; omega)
        clear hst
        obtain ⟨A4, c4, rfl, -, hlc4, hA4⟩ := HO2.out.row
        have HW2 := Lib.hid (fun k hk => (OwnI.blk HO2.out (g := k) hk).1)
        have HBA := Lib.hid (HBE2.out.alloc HBE2.out.size (.cells #[.int .u8 (x : Int)] 5))
        clear hA4
        go_wp2_with (at_builtin; refine stop_here ?_)
        refine stop_go ?_
        refine wpList_appendI rfl (.tmp 33) (.tmp 39) 44 5 .u8 1 rfl Tryd.underlying44 info_u8 (by decide) w.heap.size _ _ (some ⟨w2.heap.size, 0, none⟩) 1 [(x : Int)] rfl rfl (OwnI.below HO2.out ((Below.refl w2.heap.size w2).alloc (Nat.le_refl _) _)) (row_fresh8 w2 [(x : Int)]) (by show (by8 (basics l p)).length + 1 ≤ 1000000; have := HBN.out; omega) HBA.out.size ?_
        intro v' w' hv' hg' _
        rw [← HST.out] at hv'
        have HV := Lib.hid hv'
        have HB := Lib.hid (HBA.out.trans (grown_below hg' HBA.out.size HW2.out))
        clear hv' hg'
        go_wp2
        go_roundg (n - (p + 1))
        case measure => have := HNM.out; omega
        case rel => exact ⟨p + 1, by first | rfl | simp, rfl, by omega, HV.out, HB.out⟩
      · have hlow' : ¬ (x : Int) < 128 := by omega
        rw [if_neg hlow, List.append_nil] at hst
        go_wp2_with fail
        go_roundg (n - (p + 1))
        case measure => have := HNM.out; omega
        case rel => exact ⟨p + 1, by first | rfl | simp, rfl, by omega, by rw [hst]; exact HO2.out, HBE2.out⟩
    · have hlt' : ¬ (p : Int) < (n : Int) := by omega
      obtain rfl : p = n := by omega
      have hb0 : basics l p = (l.filter (· < 128)).map UInt8.ofNat := by
        unfold basics
        rw [HN.out, List.take_length]
      obtain ⟨b0, hb⟩ : ∃ b0, b0 = (l.filter (· < 128)).length := ⟨_, rfl⟩
      have hlb : (by8 (basics l p)).length = b0 := by rw [by8_len, hb0, List.length_map, hb]
      have hbn : b0 ≤ p := by
        rw [← hlb, by8_len, HN.out]
        exact basics_len l l.length
      have hTT : T = basics l p ++ (if b0 = 0 then [] else [45]) ++ rounds (p + 1) b0 l 128 0 72 b0 := by
        rw [HT.out, hb0, hb, HN.out]
        rfl
      have HTT := Lib.hid hTT
      have HB := Lib.hid hb
      have HLB := Lib.hid hlb
      obtain ⟨A4, c4, rfl, -, hlc4, hA4⟩ := HO.out.row
      rw [hlb] at HO hlc4 ⊢
      have HW2 := Lib.hid (fun k hk => (OwnI.blk HO.out (g := k) hk).1)
      clear hb0 hb hlb hTT HNM hA4
      by_cases hz : b0 = 0
      · have hz' : ¬ (0 : Int) < (b0 : Int) := by omega
        rw [if_pos hz, List.append_nil] at HTT
        clear hz
        go_wp2_with fail
        try simp only [show decide (0 < b0) = false by rw [decide_eq_false_iff_not]; omega]
        obtain ⟨out0, ho0⟩ : ∃ o, o = basics l p := ⟨_, rfl⟩
        have hol : out0.length ≤ 501 + 41 * b0 := by
          have := HLB.out
          rw [by8_len] at this
          rw [ho0]
          omega
        rw [← ho0] at HTT HO
        obtain ⟨V, hV⟩ : ∃ V, V = Value.slice A4 b0 c4 := ⟨_, rfl⟩
        rw [← hV] at HO ⊢
        clear hV
        clear ho0
        go_loopg [4, 7, 8, 9, 10] (p + 1) (fun f v4 v7 v8 v9 v10 w' => Hid (∃ (m d b h : Nat) (out : List UInt8), v7 = .int .i64 m ∧ v8 = .int .i64 d ∧ v9 = .int .i64 b ∧ v10 = .int .i64 h ∧ out ++ rounds f b0 l m d b h = T ∧ h = (l.filter (· < m)).length ∧ p < f + h ∧ out.length ≤ 501 + 41 * h ∧ d ≤ m * 1000 ∧ m ≤ 1114112 ∧ b ≤ 5000000000 ∧ OwnI w' w.heap.size 5 .u8 v4 (by8 out) ∧ Below w.heap.size w w'))
        case atStart => exact ⟨128, 0, 72, b0, out0, rfl, rfl, rfl, rfl, HTT.out.symm, HB.out, by omega, hol, by omega, by omega, by omega, HO.out, HBE.out⟩
        case round =>
          obtain ⟨m, d, b, h, out, rfl, rfl, rfl, rfl, ho, hh, hf, hol, hd, hm, hb, hbl, hbe⟩ := hrel.out
          clear hrel HO HBE HTT
          have HO := Lib.hid ho
          have HBL := Lib.hid hbl
          have HBE := Lib.hid hbe
          have HH := Lib.hid hh
          have hhn : h ≤ p := by
            rw [hh, HN.out]
            exact List.length_filter_le _ _
          clear ho hbl hbe hh
          by_cases hlt : h < p
          · have hlt' : (h : Int) < (p : Int) := by omega
            obtain ⟨g, rfl⟩ : ∃ g, gk = g + 1 := ⟨gk - 1, by omega⟩
            obtain ⟨M, hM⟩ : ∃ M, M = least l m := ⟨_, rfl⟩
            have hLC := HLS.out m wr HBE.out
            rw [← hM] at hLC
            have HLC := Lib.hid hLC
            obtain ⟨q1, q2, q3⟩ := least_spec l m
            obtain ⟨y, hy, hym⟩ := filter_lt_or (n := m) (by rw [← HH.out, ← HN.out]; exact hlt)
            have hyM := q1 y hy hym
            have hy1 := scalar_le (HS.out y hy)
            rw [← hM] at q1 q2 hyM
            have hMin : M ∈ l := by
              rcases q2 with h | h
              · omega
              · exact h.1
            have hMm : m ≤ M := by
              rcases q2 with h | h
              · omega
              · exact h.2
            have hM1 : M ≤ 1114111 := by omega
            obtain ⟨P, hP⟩ : ∃ P, P = (M - m) * (h + 1) := ⟨_, rfl⟩
            have hPl : P ≤ (M - m) * 501 := by rw [hP]; exact Nat.mul_le_mul_left _ (by omega)
            obtain ⟨D, hD⟩ : ∃ D, D = d + P := ⟨_, rfl⟩
            have hDl : D ≤ M * 1000 := by omega
            have hv10 : wrap64 ((d : Int) + wrap64 (((M : Int) - (m : Int)) * ((h : Int) + 1))) = (D : Int) := by
              have e : ((M : Int) - (m : Int)) * ((h : Int) + 1) = (P : Int) := by
                rw [show (M : Int) - (m : Int) = ((M - m : Nat) : Int) by omega, show (h : Int) + 1 = ((h + 1 : Nat) : Int) by omega, ← Int.natCast_mul, ← hP]
              rw [e, wrap_in (x := (P : Int)) (by omega) (by omega), wrap_in (by omega) (by omega)]
              omega
            have HQ := Lib.hid q1
            have HMIN := Lib.hid hMin
            have hO2 := HO.out
            rw [rounds, if_pos (by rw [← HN.out]; exact hlt), ← hM, ← hP, ← hD] at hO2
            obtain ⟨S, hS⟩ : ∃ S, S = scan b0 M l D b h := ⟨_, rfl⟩
            rw [← hS] at hO2
            have HO2 := Lib.hid hO2
            have HSC := Lib.hid hS
            have hSn := scan_count b0 M l D b h
            rw [← hS] at hSn
            have HSN := Lib.hid hSn
            have HV := Lib.hid hv10
            clear hO2 hS q1 q2 q3 hMin hy hyM hym hy1 hM hSn HO hP hPl hD hv10 hLC
            go_wp2_with fail
            refine HLC.out.mono ?_
            rintro e w3 ⟨rfl, hb3⟩
            have HBL3 := Lib.hid (OwnI.below HBL.out hb3)
            have HBE3 := Lib.hid (belowOn HBE.out HBE.out.size hb3)
            clear hb3 HLC HBL HBE
            go_wp2_with fail
            rw [HV.out]
            go_loopg [4, 8, 9, 10, 12] p (fun k v4 v8 v9 v10 v12 w' => Hid (∃ (i d' b' h' : Nat) (out' : List UInt8), v12 = .int .i64 i ∧ v8 = .int .i64 d' ∧ v9 = .int .i64 b' ∧ v10 = .int .i64 h' ∧ k = p - i ∧ i ≤ p ∧ out' ++ (scan b0 M (l.drop i) d' b' h').1 = out ++ S.1 ∧ (scan b0 M (l.drop i) d' b' h').2 = S.2 ∧ out'.length ≤ 501 + 41 * h' ∧ d' ≤ M * 1000 + i ∧ b' ≤ 5000000000 ∧ h' ≤ h + i ∧ OwnI w' w.heap.size 5 .u8 v4 (by8 out') ∧ Below w.heap.size w w'))
            case atStart => exact ⟨0, D, b, h, out, rfl, rfl, rfl, rfl, rfl, Nat.zero_le _, by rw [List.drop_zero, HSC.out], by rw [List.drop_zero, HSC.out], hol, by omega, hb, by omega, HBL3.out, HBE3.out⟩
            case round =>
              obtain ⟨i, d', b', h', out', rfl, rfl, rfl, rfl, hk, hi, hs1, hs2, hol', hd', hb', hh', hbl, hbe⟩ := hrel.out
              clear hrel HBL3 HBE3
              have HS1 := Lib.hid hs1
              have HS2 := Lib.hid hs2
              have HBL := Lib.hid hbl
              have HBE := Lib.hid hbe
              have HNI := Lib.hid hk
              clear hs1 hs2 hbl hbe hk
              by_cases hil : i < p
              · obtain ⟨x, hx⟩ : ∃ x, l[i]? = some x := ⟨_, List.getElem?_eq_getElem (by rw [← HN.out]; exact hil)⟩
                have hil' : (i : Int) < (p : Int) := by omega
                obtain ⟨ba, off, rfl, hbl, hcell⟩ := at32 (RowAt.keep HR.out HBE.out) (i := i) (y := (x : Int)) (by rw [List.getElem?_map, hx]; rfl)
                have hx1 := scalar_le (HS.out x (List.mem_of_getElem? hx))
                have hdr := drop_at hx
                have hs1 := HS1.out
                have hs2 := HS2.out
                rw [hdr, scan] at hs1 hs2
                clear hx hdr HS1 HS2
                by_cases hxM : x < M
                · have hxM' : (x : Int) < (M : Int) := by omega
                  have hxe : ¬ (x : Int) = (M : Int) := by omega
                  rw [if_pos hxM] at hs1 hs2
                  have HS1 := Lib.hid hs1
                  have HS2 := Lib.hid hs2
                  clear hs1 hs2
                  go_wp2_with fail
                  go_roundg (p - (i + 1))
                  case measure => have := HNI.out; omega
                  case rel => exact ⟨i + 1, d' + 1, b', h', out', by first | rfl | simp, by first | rfl | simp, rfl, rfl, rfl, by omega, HS1.out, HS2.out, hol', by omega, hb', by omega, HBL.out, HBE.out⟩
                · have hxM' : ¬ (x : Int) < (M : Int) := by omega
                  rw [if_neg hxM] at hs1 hs2
                  by_cases hxe : x = M
                  · have hxe' : (x : Int) = (M : Int) := by omega
                    rw [if_pos hxe] at hs1 hs2
                    dsimp only at hs1 hs2
                    rw [← List.append_assoc] at hs1
                    have hNU := tell_calls d' b' (by omega) (by omega) wr
                    have hAD := adapt_ref_calls d' (h' + 1) (h' == b0) (by omega) (by omega) (by omega)
                    have hal := adapt_le d' (h' + 1) (h' == b0)
                    rw [show ((h' + 1 : Nat) : Int) = (h' : Int) + 1 by omega, show (h' == b0) = ((h' : Int) == (b0 : Int)) by rw [Bool.eq_iff_iff]; simp; omega] at hAD
                    rw [show (h' == b0) = ((h' : Int) == (b0 : Int)) by rw [Bool.eq_iff_iff]; simp; omega] at hs1 hs2 hal
                    generalize adapt d' (h' + 1) ((h' : Int) == (b0 : Int)) = b2 at hs1 hs2 hal hAD
                    have htl := tell_len d' b' 36 (by omega)
                    obtain ⟨dg, hdg⟩ : ∃ dg, dg = (tell d' b' 36).map digit := ⟨_, rfl⟩
                    have hdl : dg.length ≤ 41 := by rw [hdg, List.length_map]; exact htl
                    rw [show digs8 (tell d' b' 36) = by8 dg by rw [hdg]; rfl] at hNU
                    rw [← hdg] at hs1
                    have HS1 := Lib.hid hs1
                    have HS2 := Lib.hid hs2
                    have HNU := Lib.hid hNU
                    have HAD := Lib.hid hAD
                    clear hs1 hs2 hNU hAD hdg htl
                    obtain ⟨A4, c4, rfl, -, hlc4, -⟩ := HBL.out.row
                    have HW3 := Lib.hid (fun k hk => (OwnI.blk HBL.out (g := k) hk).1)
                    go_wp2_with (first | (at_builtin; refine stop_here ?_) | fail)
                    refine HNU.out.mono ?_
                    rintro e w4 ⟨v4, rfl, hov, hb3⟩
                    obtain ⟨A5, c5, rfl, hr5, hlc5, -⟩ := hov.row
                    have HR5 := Lib.hid hr5
                    have HBL2 := Lib.hid (OwnI.below HBL.out hb3)
                    have HBE2 := Lib.hid (belowOn HBE.out HBE.out.size hb3)
                    clear hov hr5 hb3 HBL HBE HNU
                    go_wp2_with (at_builtin; refine stop_here ?_)
                    refine stop_go ?_
                    refine wpList_appendI rfl (.tmp 87) (.tmp 90) 44 5 .u8 1 rfl Tryd.underlying44 info_u8 (by decide) w.heap.size _ _ A5 c5 (by8 dg) rfl rfl HBL2.out HR5.out (by rw [by8_len, by8_len]; omega) HBE2.out.size ?_
                    intro v6 w6 hv6 hg6 _
                    rw [← by8_append] at hv6
                    have HBL3 := Lib.hid hv6
                    have HBE3 := Lib.hid (HBE2.out.trans (grown_below hg6 HBE2.out.size HW3.out))
                    clear hv6 hg6 HBL2 HBE2
                    go_wp2_with fail
                    refine (HAD.out _).mono ?_
                    rintro e w5 ⟨rfl, hb6⟩
                    have HBL4 := Lib.hid (OwnI.below HBL3.out hb6)
                    have HBE4 := Lib.hid (belowOn HBE3.out HBE3.out.size hb6)
                    clear hb6 HBL3 HBE3 HAD
                    go_wp2_with fail
                    go_roundg (p - (i + 1))
                    case measure => have := HNI.out; omega
                    case rel => exact ⟨i + 1, 0, b2, h' + 1, out' ++ dg, by first | rfl | simp, rfl, rfl, by first | rfl | simp, rfl, by omega, HS1.out, HS2.out, by rw [List.length_append]; omega, by omega, by omega, by omega, HBL4.out, HBE4.out⟩
                  · have hxe' : ¬ (x : Int) = (M : Int) := by omega
                    rw [if_neg hxe] at hs1 hs2
                    have HS1 := Lib.hid hs1
                    have HS2 := Lib.hid hs2
                    clear hs1 hs2
                    go_wp2_with fail
                    go_roundg (p - (i + 1))
                    case measure => have := HNI.out; omega
                    case rel => exact ⟨i + 1, d', b', h', out', by first | rfl | simp, rfl, rfl, rfl, rfl, by omega, HS1.out, HS2.out, hol', by omega, hb', by omega, HBL.out, HBE.out⟩
              · have hil' : ¬ (i : Int) < (p : Int) := by omega
                obtain rfl : p = i := by omega
                have hs1 := HS1.out
                have hs2 := HS2.out
                rw [show l.drop p = [] by rw [HN.out, List.drop_length]] at hs1 hs2
                rw [scan] at hs1 hs2
                dsimp only at hs1 hs2
                rw [List.append_nil] at hs1
                have hO3 := HO2.out
                have hSn := HSN.out
                rw [← List.append_assoc, ← hs1, ← hs2] at hO3
                rw [← hs2] at hSn
                dsimp only at hO3 hSn
                have hcnt : h' = (l.filter (· < M + 1)).length := by
                  rw [filter_eq_count M l, filter_below hMm HQ.out, ← HH.out]
                  exact hSn
                have hgr := eq_pos HMIN.out
                have HO3 := Lib.hid hO3
                have HCN := Lib.hid hcnt
                have HSN2 := Lib.hid hSn
                clear hs1 hs2 hO3 hSn hcnt
                go_wp2_with fail
                go_roundg g
                case measure => omega
                case rel =>
                  have := HSN2.out
                  exact ⟨M + 1, d' + 1, b', h', out', by first | rfl | simp, by first | rfl | simp, rfl, rfl, HO3.out, HCN.out, by omega, hol', by omega, by omega, hb', HBL.out, HBE.out⟩
          · have hlt' : ¬ (h : Int) < (p : Int) := by omega
            have hT2 : out = T := by
              have := HO.out
              rw [rounds_done (by rw [← HN.out]; exact hlt), List.append_nil] at this
              exact this
            rw [hT2] at HBL
            have HCV := Lib.hid (conv_bytes HBL.out)
            have hcv := HCV.out
            clear hT2
            go_wp2_with (simp only [hcv])
            go_ret2
            exact ⟨rfl, HBE.out⟩
      · have hz' : (0 : Int) < (b0 : Int) := by omega
        rw [if_neg hz] at HTT
        have HBA := Lib.hid (HBE.out.alloc HBE.out.size (.cells #[.int .u8 45] 5))
        go_wp2_with (at_builtin; refine stop_here ?_)
        refine stop_go ?_
        refine wpList_appendI rfl (.tmp 45) (.tmp 46) 44 5 .u8 1 rfl Tryd.underlying44 info_u8 (by decide) w.heap.size _ _ (some ⟨wr.heap.size, 0, none⟩) 1 [45] rfl rfl (OwnI.below HO.out ((Below.refl wr.heap.size wr).alloc (Nat.le_refl _) _)) (row_fresh8 wr [45]) (by rw [HLB.out]; show b0 + 1 ≤ 1000000; omega) HBA.out.size ?_
        intro V w' hv' hg' _
        obtain ⟨out0, ho0⟩ : ∃ o, o = basics l p ++ [45] := ⟨_, rfl⟩
        have hol : out0.length ≤ 501 + 41 * b0 := by
          have := HLB.out
          rw [by8_len] at this
          rw [ho0, List.length_append]
          show (basics l p).length + 1 ≤ _
          omega
        rw [show by8 (basics l p) ++ [45] = by8 out0 by rw [ho0, by8_append]; rfl] at hv'
        rw [← ho0] at HTT
        have HO1 := HO
        clear HO
        have HO := Lib.hid hv'
        have HBE1 := HBE
        clear HBE
        have HBE := Lib.hid (HBA.out.trans (grown_below hg' HBA.out.size HW2.out))
        clear hv' hg' HO1 HBE1 HBA
        go_wp2_with fail
        clear ho0
        go_loopg [4, 7, 8, 9, 10] (p + 1) (fun f v4 v7 v8 v9 v10 w' => Hid (∃ (m d b h : Nat) (out : List UInt8), v7 = .int .i64 m ∧ v8 = .int .i64 d ∧ v9 = .int .i64 b ∧ v10 = .int .i64 h ∧ out ++ rounds f b0 l m d b h = T ∧ h = (l.filter (· < m)).length ∧ p < f + h ∧ out.length ≤ 501 + 41 * h ∧ d ≤ m * 1000 ∧ m ≤ 1114112 ∧ b ≤ 5000000000 ∧ OwnI w' w.heap.size 5 .u8 v4 (by8 out) ∧ Below w.heap.size w w'))
        case atStart => exact ⟨128, 0, 72, b0, out0, rfl, rfl, rfl, rfl, HTT.out.symm, HB.out, by omega, hol, by omega, by omega, by omega, HO.out, HBE.out⟩
        case round =>
          obtain ⟨m, d, b, h, out, rfl, rfl, rfl, rfl, ho, hh, hf, hol, hd, hm, hb, hbl, hbe⟩ := hrel.out
          clear hrel HO HBE HTT
          have HO := Lib.hid ho
          have HBL := Lib.hid hbl
          have HBE := Lib.hid hbe
          have HH := Lib.hid hh
          have hhn : h ≤ p := by
            rw [hh, HN.out]
            exact List.length_filter_le _ _
          clear ho hbl hbe hh
          by_cases hlt : h < p
          · have hlt' : (h : Int) < (p : Int) := by omega
            obtain ⟨g, rfl⟩ : ∃ g, gk = g + 1 := ⟨gk - 1, by omega⟩
            obtain ⟨M, hM⟩ : ∃ M, M = least l m := ⟨_, rfl⟩
            have hLC := HLS.out m wr HBE.out
            rw [← hM] at hLC
            have HLC := Lib.hid hLC
            obtain ⟨q1, q2, q3⟩ := least_spec l m
            obtain ⟨y, hy, hym⟩ := filter_lt_or (n := m) (by rw [← HH.out, ← HN.out]; exact hlt)
            have hyM := q1 y hy hym
            have hy1 := scalar_le (HS.out y hy)
            rw [← hM] at q1 q2 hyM
            have hMin : M ∈ l := by
              rcases q2 with h | h
              · omega
              · exact h.1
            have hMm : m ≤ M := by
              rcases q2 with h | h
              · omega
              · exact h.2
            have hM1 : M ≤ 1114111 := by omega
            obtain ⟨P, hP⟩ : ∃ P, P = (M - m) * (h + 1) := ⟨_, rfl⟩
            have hPl : P ≤ (M - m) * 501 := by rw [hP]; exact Nat.mul_le_mul_left _ (by omega)
            obtain ⟨D, hD⟩ : ∃ D, D = d + P := ⟨_, rfl⟩
            have hDl : D ≤ M * 1000 := by omega
            have hv10 : wrap64 ((d : Int) + wrap64 (((M : Int) - (m : Int)) * ((h : Int) + 1))) = (D : Int) := by
              have e : ((M : Int) - (m : Int)) * ((h : Int) + 1) = (P : Int) := by
                rw [show (M : Int) - (m : Int) = ((M - m : Nat) : Int) by omega, show (h : Int) + 1 = ((h + 1 : Nat) : Int) by omega, ← Int.natCast_mul, ← hP]
              rw [e, wrap_in (x := (P : Int)) (by omega) (by omega), wrap_in (by omega) (by omega)]
              omega
            have HQ := Lib.hid q1
            have HMIN := Lib.hid hMin
            have hO2 := HO.out
            rw [rounds, if_pos (by rw [← HN.out]; exact hlt), ← hM, ← hP, ← hD] at hO2
            obtain ⟨S, hS⟩ : ∃ S, S = scan b0 M l D b h := ⟨_, rfl⟩
            rw [← hS] at hO2
            have HO2 := Lib.hid hO2
            have HSC := Lib.hid hS
            have hSn := scan_count b0 M l D b h
            rw [← hS] at hSn
            have HSN := Lib.hid hSn
            have HV := Lib.hid hv10
            clear hO2 hS q1 q2 q3 hMin hy hyM hym hy1 hM hSn HO hP hPl hD hv10 hLC
            go_wp2_with fail
            refine HLC.out.mono ?_
            rintro e w3 ⟨rfl, hb3⟩
            have HBL3 := Lib.hid (OwnI.below HBL.out hb3)
            have HBE3 := Lib.hid (belowOn HBE.out HBE.out.size hb3)
            clear hb3 HLC HBL HBE
            go_wp2_with fail
            rw [HV.out]
            go_loopg [4, 8, 9, 10, 12] p (fun k v4 v8 v9 v10 v12 w' => Hid (∃ (i d' b' h' : Nat) (out' : List UInt8), v12 = .int .i64 i ∧ v8 = .int .i64 d' ∧ v9 = .int .i64 b' ∧ v10 = .int .i64 h' ∧ k = p - i ∧ i ≤ p ∧ out' ++ (scan b0 M (l.drop i) d' b' h').1 = out ++ S.1 ∧ (scan b0 M (l.drop i) d' b' h').2 = S.2 ∧ out'.length ≤ 501 + 41 * h' ∧ d' ≤ M * 1000 + i ∧ b' ≤ 5000000000 ∧ h' ≤ h + i ∧ OwnI w' w.heap.size 5 .u8 v4 (by8 out') ∧ Below w.heap.size w w'))
            case atStart => exact ⟨0, D, b, h, out, rfl, rfl, rfl, rfl, rfl, Nat.zero_le _, by rw [List.drop_zero, HSC.out], by rw [List.drop_zero, HSC.out], hol, by omega, hb, by omega, HBL3.out, HBE3.out⟩
            case round =>
              obtain ⟨i, d', b', h', out', rfl, rfl, rfl, rfl, hk, hi, hs1, hs2, hol', hd', hb', hh', hbl, hbe⟩ := hrel.out
              clear hrel HBL3 HBE3
              have HS1 := Lib.hid hs1
              have HS2 := Lib.hid hs2
              have HBL := Lib.hid hbl
              have HBE := Lib.hid hbe
              have HNI := Lib.hid hk
              clear hs1 hs2 hbl hbe hk
              by_cases hil : i < p
              · obtain ⟨x, hx⟩ : ∃ x, l[i]? = some x := ⟨_, List.getElem?_eq_getElem (by rw [← HN.out]; exact hil)⟩
                have hil' : (i : Int) < (p : Int) := by omega
                obtain ⟨ba, off, rfl, hbl, hcell⟩ := at32 (RowAt.keep HR.out HBE.out) (i := i) (y := (x : Int)) (by rw [List.getElem?_map, hx]; rfl)
                have hx1 := scalar_le (HS.out x (List.mem_of_getElem? hx))
                have hdr := drop_at hx
                have hs1 := HS1.out
                have hs2 := HS2.out
                rw [hdr, scan] at hs1 hs2
                clear hx hdr HS1 HS2
                by_cases hxM : x < M
                · have hxM' : (x : Int) < (M : Int) := by omega
                  have hxe : ¬ (x : Int) = (M : Int) := by omega
                  rw [if_pos hxM] at hs1 hs2
                  have HS1 := Lib.hid hs1
                  have HS2 := Lib.hid hs2
                  clear hs1 hs2
                  go_wp2_with fail
                  go_roundg (p - (i + 1))
                  case measure => have := HNI.out; omega
                  case rel => exact ⟨i + 1, d' + 1, b', h', out', by first | rfl | simp, by first | rfl | simp, rfl, rfl, rfl, by omega, HS1.out, HS2.out, hol', by omega, hb', by omega, HBL.out, HBE.out⟩
                · have hxM' : ¬ (x : Int) < (M : Int) := by omega
                  rw [if_neg hxM] at hs1 hs2
                  by_cases hxe : x = M
                  · have hxe' : (x : Int) = (M : Int) := by omega
                    rw [if_pos hxe] at hs1 hs2
                    dsimp only at hs1 hs2
                    rw [← List.append_assoc] at hs1
                    have hNU := tell_calls d' b' (by omega) (by omega) wr
                    have hAD := adapt_ref_calls d' (h' + 1) (h' == b0) (by omega) (by omega) (by omega)
                    have hal := adapt_le d' (h' + 1) (h' == b0)
                    rw [show ((h' + 1 : Nat) : Int) = (h' : Int) + 1 by omega, show (h' == b0) = ((h' : Int) == (b0 : Int)) by rw [Bool.eq_iff_iff]; simp; omega] at hAD
                    rw [show (h' == b0) = ((h' : Int) == (b0 : Int)) by rw [Bool.eq_iff_iff]; simp; omega] at hs1 hs2 hal
                    generalize adapt d' (h' + 1) ((h' : Int) == (b0 : Int)) = b2 at hs1 hs2 hal hAD
                    have htl := tell_len d' b' 36 (by omega)
                    obtain ⟨dg, hdg⟩ : ∃ dg, dg = (tell d' b' 36).map digit := ⟨_, rfl⟩
                    have hdl : dg.length ≤ 41 := by rw [hdg, List.length_map]; exact htl
                    rw [show digs8 (tell d' b' 36) = by8 dg by rw [hdg]; rfl] at hNU
                    rw [← hdg] at hs1
                    have HS1 := Lib.hid hs1
                    have HS2 := Lib.hid hs2
                    have HNU := Lib.hid hNU
                    have HAD := Lib.hid hAD
                    clear hs1 hs2 hNU hAD hdg htl
                    obtain ⟨A4, c4, rfl, -, hlc4, -⟩ := HBL.out.row
                    have HW3 := Lib.hid (fun k hk => (OwnI.blk HBL.out (g := k) hk).1)
                    go_wp2_with (first | (at_builtin; refine stop_here ?_) | fail)
                    refine HNU.out.mono ?_
                    rintro e w4 ⟨v4, rfl, hov, hb3⟩
                    obtain ⟨A5, c5, rfl, hr5, hlc5, -⟩ := hov.row
                    have HR5 := Lib.hid hr5
                    have HBL2 := Lib.hid (OwnI.below HBL.out hb3)
                    have HBE2 := Lib.hid (belowOn HBE.out HBE.out.size hb3)
                    clear hov hr5 hb3 HBL HBE HNU
                    go_wp2_with (at_builtin; refine stop_here ?_)
                    refine stop_go ?_
                    refine wpList_appendI rfl (.tmp 87) (.tmp 90) 44 5 .u8 1 rfl Tryd.underlying44 info_u8 (by decide) w.heap.size _ _ A5 c5 (by8 dg) rfl rfl HBL2.out HR5.out (by rw [by8_len, by8_len]; omega) HBE2.out.size ?_
                    intro v6 w6 hv6 hg6 _
                    rw [← by8_append] at hv6
                    have HBL3 := Lib.hid hv6
                    have HBE3 := Lib.hid (HBE2.out.trans (grown_below hg6 HBE2.out.size HW3.out))
                    clear hv6 hg6 HBL2 HBE2
                    go_wp2_with fail
                    refine (HAD.out _).mono ?_
                    rintro e w5 ⟨rfl, hb6⟩
                    have HBL4 := Lib.hid (OwnI.below HBL3.out hb6)
                    have HBE4 := Lib.hid (belowOn HBE3.out HBE3.out.size hb6)
                    clear hb6 HBL3 HBE3 HAD
                    go_wp2_with fail
                    go_roundg (p - (i + 1))
                    case measure => have := HNI.out; omega
                    case rel => exact ⟨i + 1, 0, b2, h' + 1, out' ++ dg, by first | rfl | simp, rfl, rfl, by first | rfl | simp, rfl, by omega, HS1.out, HS2.out, by rw [List.length_append]; omega, by omega, by omega, by omega, HBL4.out, HBE4.out⟩
                  · have hxe' : ¬ (x : Int) = (M : Int) := by omega
                    rw [if_neg hxe] at hs1 hs2
                    have HS1 := Lib.hid hs1
                    have HS2 := Lib.hid hs2
                    clear hs1 hs2
                    go_wp2_with fail
                    go_roundg (p - (i + 1))
                    case measure => have := HNI.out; omega
                    case rel => exact ⟨i + 1, d', b', h', out', by first | rfl | simp, rfl, rfl, rfl, rfl, by omega, HS1.out, HS2.out, hol', by omega, hb', by omega, HBL.out, HBE.out⟩
              · have hil' : ¬ (i : Int) < (p : Int) := by omega
                obtain rfl : p = i := by omega
                have hs1 := HS1.out
                have hs2 := HS2.out
                rw [show l.drop p = [] by rw [HN.out, List.drop_length]] at hs1 hs2
                rw [scan] at hs1 hs2
                dsimp only at hs1 hs2
                rw [List.append_nil] at hs1
                have hO3 := HO2.out
                have hSn := HSN.out
                rw [← List.append_assoc, ← hs1, ← hs2] at hO3
                rw [← hs2] at hSn
                dsimp only at hO3 hSn
                have hcnt : h' = (l.filter (· < M + 1)).length := by
                  rw [filter_eq_count M l, filter_below hMm HQ.out, ← HH.out]
                  exact hSn
                have hgr := eq_pos HMIN.out
                have HO3 := Lib.hid hO3
                have HCN := Lib.hid hcnt
                have HSN2 := Lib.hid hSn
                clear hs1 hs2 hO3 hSn hcnt
                go_wp2_with fail
                go_roundg g
                case measure => omega
                case rel =>
                  have := HSN2.out
                  exact ⟨M + 1, d' + 1, b', h', out', by first | rfl | simp, by first | rfl | simp, rfl, rfl, HO3.out, HCN.out, by omega, hol', by omega, by omega, hb', HBL.out, HBE.out⟩
          · have hlt' : ¬ (h : Int) < (p : Int) := by omega
            have hT2 : out = T := by
              have := HO.out
              rw [rounds_done (by rw [← HN.out]; exact hlt), List.append_nil] at this
              exact this
            rw [hT2] at HBL
            have HCV := Lib.hid (conv_bytes HBL.out)
            have hcv := HCV.out
            clear hT2
            go_wp2_with (simp only [hcv])
            go_ret2
            exact ⟨rfl, HBE.out⟩
set_option maxHeartbeats 4000000 in
theorem ref_odd {A : Option Addr} {c : Nat} {l : List Int} (w : World) (hr : RowAt iC 1 w A l) (hl : l.length ≤ 500) (hc : l.length ≤ c) (hv : l.all Lib.validRune = false) :
    Calls Tryd.prog 7 #[.slice A l.length c] w fun e w' => e = .returned (.tuple #[.string ⟨#[]⟩, .int .i64 2]) ∧ Below w.heap.size w w' := by
  have HR := Lib.hid hr
  have HVV := Lib.hid hv
  obtain ⟨n, hn⟩ : ∃ n, n = l.length := ⟨_, rfl⟩
  have HN := Lib.hid hn
  rw [← hn] at hl hc ⊢
  clear hr hn hv
  go_enter Tryd.func7, Tryd.ntmps7
  go_wp2_with fail
  go_loopg [4, 5] n (fun k v4 v5 w' => Hid (∃ (p : Nat) (r : List Int), v5 = .int .i64 p ∧ k = n - p ∧ p ≤ n ∧ r.length ≤ p ∧ OwnI w' w.heap.size 5 .u8 v4 r ∧ (∀ j y, j < p → l[j]? = some y → Lib.validRune y = true) ∧ Below w.heap.size w w'))
  case atStart => exact ⟨0, [], rfl, rfl, Nat.zero_le _, Nat.le_refl _, OwnI.nil _ _ _ _, fun j c hj => absurd hj (Nat.not_lt_zero _), Below.refl _ _⟩
  case round =>
    obtain ⟨p, r, rfl, hk, hp, hrl, hown, hall, hbe⟩ := hrel.out
    clear hrel
    have HNM := Lib.hid hk
    have HO := Lib.hid hown
    have HBE := Lib.hid hbe
    have HALL := Lib.hid hall
    clear hk hown hbe hall
    by_cases hlt : p < n
    · obtain ⟨x, hx⟩ : ∃ x, l[p]? = some x := ⟨_, List.getElem?_eq_getElem (by rw [← HN.out]; exact hlt)⟩
      have hlt' : (p : Int) < (n : Int) := by omega
      obtain ⟨ba, off, rfl, hbl, hcell⟩ := at32 (RowAt.keep HR.out HBE.out) hx
      have hsc := scalar_calls x wr
      have HX := Lib.hid hx
      clear hx
      cases hv : Lib.validRune x with
      | false =>
        rw [hv] at hsc
        have HSC := Lib.hid hsc
        clear hsc
        go_wp2_with fail
        refine HSC.out.mono ?_
        rintro e w2 ⟨rfl, hb⟩
        have HBE2 := Lib.hid (belowOn HBE.out HBE.out.size hb)
        clear hb
        go_wp2_with fail
        go_ret2
        exact ⟨rfl, HBE2.out⟩
      | true =>
        rw [hv] at hsc
        have HSC := Lib.hid hsc
        have HALL2 := Lib.hid (show ∀ j y, j < p + 1 → l[j]? = some y → Lib.validRune y = true from fun j d hj hd => by
          by_cases hjp : j < p
          · exact HALL.out j d hjp hd
          · have hjp' : j = p := by omega
            subst hjp'
            rw [HX.out] at hd
            simp only [Option.some.injEq] at hd
            subst hd
            exact hv)
        have hxr : 0 ≤ x := by
          unfold Lib.validRune at hv
          rw [decide_eq_true_eq] at hv
          omega
        clear hsc hv HALL
        go_wp2_with fail
        refine HSC.out.mono ?_
        rintro e w2 ⟨rfl, hb⟩
        have HO2 := Lib.hid (OwnI.below HO.out hb)
        have HBE2 := Lib.hid (belowOn HBE.out HBE.out.size hb)
        clear hb HSC HO hcell hbl
        obtain ⟨ba', off', e1, hbl, hcell⟩ := at32 (RowAt.keep HR.out HBE2.out) HX.out
        cases e1
        clear HBE
        by_cases hlow : x < 128
        · have w8 : IntKind.u8.wrap x = x := by rw [IntKind.wrap_u8]; omega
          obtain ⟨A4, c4, rfl, -, hlc4, hA4⟩ := HO2.out.row
          have HW2 := Lib.hid (fun k hk => (OwnI.blk HO2.out (g := k) hk).1)
          have HBA := Lib.hid (HBE2.out.alloc HBE2.out.size (.cells #[.int .u8 x] 5))
          clear hA4
          go_wp2_with (at_builtin; refine stop_here ?_)
          refine stop_go ?_
          refine wpList_appendI rfl (.tmp 33) (.tmp 39) 44 5 .u8 1 rfl Tryd.underlying44 info_u8 (by decide) w.heap.size _ r (some ⟨w2.heap.size, 0, none⟩) 1 [x] rfl rfl (OwnI.below HO2.out ((Below.refl w2.heap.size w2).alloc (Nat.le_refl _) _)) (row_fresh8 w2 [x]) (by show r.length + 1 ≤ 1000000; omega) HBA.out.size ?_
          intro v' w' hv' hg' _
          have HV := Lib.hid hv'
          have HB := Lib.hid (HBA.out.trans (grown_below hg' HBA.out.size HW2.out))
          clear hv' hg'
          go_wp2
          go_roundg (n - (p + 1))
          case measure => have := HNM.out; omega
          case rel => exact ⟨p + 1, r ++ [x], by first | rfl | simp, rfl, by omega, by rw [List.length_append]; show r.length + 1 ≤ _; omega, HV.out, HALL2.out, HB.out⟩
        · go_wp2_with fail
          go_roundg (n - (p + 1))
          case measure => have := HNM.out; omega
          case rel => exact ⟨p + 1, r, by first | rfl | simp, rfl, by omega, by omega, HO2.out, HALL2.out, HBE2.out⟩
    · exfalso
      have : l.all Lib.validRune = true := by
        rw [List.all_eq_true]
        intro y hy
        obtain ⟨j, hj, rfl⟩ := List.mem_iff_getElem.1 hy
        exact HALL.out j _ (by rw [← HN.out] at hj; omega) (List.getElem?_eq_getElem hj)
      rw [HVV.out] at this
      cases this
end Go.Proofs.YtbeibfhnbnmocaaDoor
