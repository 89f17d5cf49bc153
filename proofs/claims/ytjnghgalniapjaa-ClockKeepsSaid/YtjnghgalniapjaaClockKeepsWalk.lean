/- The law ClockKeeps, walked. -/
import Derived.Test.YtjnghgalniapjaaClockActs
import Derived.Deep.RegionHeld3
set_option linter.unusedSimpArgs false
set_option linter.unusedVariables false
namespace Go.Proofs.Ytjnghgalniapjaa
open Go.RowKit

set_option maxHeartbeats 2000000 in
set_option maxRecDepth 100000 in
theorem keeps_calls (A : Option Addr) (c : Nat) (l : List Act) (w : World) (h : RowAt Act.cells 4 w A l) (hlc : l.length ≤ maxLen) :
    Calls Try.prog 5 #[.slice A l.length c] w fun e w' => e = .returned (.bool true) ∧ Below w.heap.size w w' := by
  have H := Lib.hid h
  clear h
  go_enter Try.func5, Try.ntmps5
  go_wp2_with fail
  refine (awake_calls _).mono ?_
  rintro e w1 ⟨rfl, hb1⟩
  have HB1 := Lib.hid hb1
  have HR1 := Lib.hid (H.out.keep hb1)
  clear hb1
  go_wp2_with fail
  refine (few_calls A c l w1 HR1.out hlc).mono ?_
  rintro e w' ⟨b, rfl, hfew, rfl⟩
  have HF := Lib.hid hfew
  clear hfew
  cases b with
  | false =>
    go_wp2
    go_ret
    exact ⟨rfl, HB1.out⟩
  | true =>
    have hlen : l.length ≤ 40 := HF.out rfl
    go_wp2_with fail
    refine (new_ok 40 _ (by omega) (by omega)).mono ?_
    rintro e w2 ⟨rfl, hM2, hb2⟩
    have hb3 := below_step HB1.out HB1.out.size hb2
    have HB3 := Lib.hid hb3
    have HM2 := Lib.hid hM2
    have HS2 := Lib.hid hb2.size
    have HSZ := Lib.hid HB1.out.size
    clear hM2 hb2 hb3
    go_wp2
    go_loopg [6] l.length (fun n v6 w' => Hid (∃ (i : Nat) (pv : Value) (m : Memo), v6 = .int .i64 i ∧ i ≤ l.length ∧ n = l.length - i ∧ MemoAt w' w1.heap.size (w1.heap.size + 1) w1.heap.size pv m ∧ KInv l i m ∧ Below w.heap.size w w' ∧ w1.heap.size ≤ w'.heap.size))
    case atStart => exact ⟨0, _, _, rfl, Nat.zero_le _, rfl, HM2.out, KInv.start l, HB3.out, HS2.out⟩
    case round =>
      obtain ⟨i, pv, m, rfl, hi, hn, hM, hK, hB, hS⟩ := hrel.out
      clear hrel
      have HN := Lib.hid hn
      have HM := Lib.hid hM
      have HK := Lib.hid hK
      have HB := Lib.hid hB
      clear hn hM hK hB HM2 HB3
      by_cases hlt : i < l.length
      · obtain ⟨a, ha⟩ : ∃ a, l[i]? = some a := ⟨l[i]'hlt, List.getElem?_eq_getElem hlt⟩
        have HA := Lib.hid ha
        obtain ⟨b0, off, rfl, c0, c1, c2, c3⟩ := act_at (H.out.keep HB.out) ha
        clear ha c0
        go_wp2
        go_still_tail 16, (by kernel_rfl)
        go_wp2_with fail
        clear c1 c2 c3
        refine (put_calls (HM.out.drew) hS _ _ _).mono ?_
        rintro e w3 ⟨rfl, ⟨pv3, hM3⟩, hF3⟩
        have hB3 := below_fr (HB.out.drew) (Nat.le_trans HSZ.out hS) hF3 (fun i hi => Nat.le_trans HSZ.out (HM.out.base_le i hi))
        have hS3 : w1.heap.size ≤ w3.heap.size := Nat.le_trans hS hF3.size
        have HB3 := Lib.hid hB3
        have HM3 := Lib.hid hM3
        clear hM3 hF3 hB3
        go_wp2
        obtain ⟨b1, off1, e1, c0, c1, c2, c3⟩ := act_at (H.out.keep HB3.out) HA.out
        cases e1
        clear c0
        clear c3
        go_region_held3 (fun w' => w'.cell? ⟨b0, off + i * 4 + 1, none⟩ = some (.string a.k) ∧ w'.cell? ⟨b0, off + i * 4 + 2, none⟩ = some (.int .i64 a.ver)) (first | exact ⟨c1, c2⟩ | exact ⟨c14, c24⟩) (first | (go_at_call 14; refine (get_calls (HM3.out.drew) _ _).mono ?_; rintro e w4 ⟨rfl, hM4, hF4⟩; obtain ⟨b4, off4, e4, _, c14, c24, _⟩ := act_at (H.out.keep (below_fr (HB3.out.drew) (Nat.le_trans HSZ.out hS3) hF4 (fun i hi => Nat.le_trans HSZ.out (HM3.out.base_le i hi)))) HA.out; cases e4))
        clear c1 c2
        have hB4 := below_fr (HB3.out.drew) (Nat.le_trans HSZ.out hS3) hF4 (fun i hi => Nat.le_trans HSZ.out (HM3.out.base_le i hi))
        have hS4 : w1.heap.size ≤ w4.heap.size := Nat.le_trans hS3 hF4.size
        have hget := getM_has (has_put_same HM.out.ok a.k a.ver a.v)
        rw [hget]
        have HB4 := Lib.hid hB4
        have HM4 := Lib.hid hM4
        clear hM4 hF4 hB4 hget
        obtain ⟨b1, off1, e1, c0, c1, c2, c3⟩ := act_at (H.out.keep HB4.out) HA.out
        cases e1
        clear c0 c1 c2
        go_wp2
        go_roundg (l.length - (i + 1))
        case measure => have := HN.out; omega
        case rel => exact ⟨i + 1, pv3, _, by simp, by omega, rfl, HM4.out, (HK.out.put (by omega) HA.out).get _ _, HB4.out, hS4⟩
      · have hil : i = l.length := by omega
        subst hil
        go_wp2
        go_loopg [9] l.length (fun n v9 w' => Hid (∃ (i : Nat) (m : Memo), v9 = .int .i64 i ∧ i ≤ l.length ∧ n = l.length - i ∧ MemoAt w' w1.heap.size (w1.heap.size + 1) w1.heap.size pv m ∧ KInv l l.length m ∧ Below w.heap.size w w' ∧ w1.heap.size ≤ w'.heap.size))
        case atStart => exact ⟨0, m, rfl, Nat.zero_le _, rfl, HM.out, HK.out, HB.out, hS⟩
        case round =>
          obtain ⟨i, m2, rfl, hi2, hn2, hM2, hK2, hB2, hS2⟩ := hrel.out
          clear hrel HN HM HK HB hS hi
          have HN := Lib.hid hn2
          have HM := Lib.hid hM2
          have HK := Lib.hid hK2
          have HB := Lib.hid hB2
          have HS := Lib.hid hS2
          clear hn2 hM2 hK2 hB2 hS2
          by_cases hlt2 : i < l.length
          · obtain ⟨a, ha⟩ : ∃ a, l[i]? = some a := ⟨l[i]'hlt2, List.getElem?_eq_getElem hlt2⟩
            have HA := Lib.hid ha
            obtain ⟨b0, off, rfl, _, _, _, _⟩ := act_at (H.out.keep HB.out) ha
            clear ha
            go_wp2
            obtain ⟨wo, hwo⟩ : ∃ wo : World, wo = wr := ⟨_, rfl⟩
            subst hwo
            go_loopg [10, 11] (l.length - i) (fun n v10 v11 w' => Hid (∃ (k last : Nat) (al : Act), v11 = .int .i64 k ∧ v10 = .int .i64 last ∧ k ≤ l.length ∧ n = l.length - k ∧ i ≤ last ∧ l[last]? = some al ∧ al.k = a.k ∧ (∀ (j' : Nat) (a' : Act), last < j' → j' < k → l[j']? = some a' → a'.k ≠ a.k) ∧ (last < k ∨ last = i) ∧ i ≤ k ∧ MemoAt w' w1.heap.size (w1.heap.size + 1) w1.heap.size pv m2 ∧ Below w.heap.size w w' ∧ w1.heap.size ≤ w'.heap.size))
            case atStart => exact ⟨i, i, a, rfl, rfl, by omega, rfl, Nat.le_refl _, HA.out, rfl, fun j' a' h1 h2 => by omega, .inr rfl, Nat.le_refl _, HM.out, HB.out, HS.out⟩
            case round =>
              obtain ⟨k, last, al, rfl, rfl, hk, hn3, hil, hal, hkal, hno, hlk, hik, hM3, hB3, hS3⟩ := hrel.out
              clear hrel HM HB HS
              have HN3 := Lib.hid hn3
              have HAL := Lib.hid hal
              have HKA := Lib.hid hkal
              have HNO := Lib.hid hno
              have HM := Lib.hid hM3
              have HB := Lib.hid hB3
              have HS := Lib.hid hS3
              have HX := Lib.hid hlk
              clear hn3 hal hkal hno hM3 hB3 hS3 hlk
              by_cases hlt3 : k < l.length
              · obtain ⟨ak, hak⟩ : ∃ ak, l[k]? = some ak := ⟨l[k]'hlt3, List.getElem?_eq_getElem hlt3⟩
                have HAK := Lib.hid hak
                obtain ⟨bk, offk, ek, _, ck1, _, _⟩ := act_at (H.out.keep HB.out) hak
                cases ek
                obtain ⟨bi, offi, ei, _, ci1, _, _⟩ := act_at (H.out.keep HB.out) HA.out
                cases ei
                clear hak
                by_cases hkk : ak.k = a.k
                · have hbq := str_beq_true hkk
                  have HKK := Lib.hid hkk
                  clear hkk
                  go_wp2
                  go_quiet (fail)
                  go_wp2
                  go_roundg (l.length - (k + 1))
                  case measure => have := HN3.out; omega
                  case rel => exact ⟨k + 1, k, ak, by simp, rfl, by omega, rfl, by omega, HAK.out, HKK.out, fun j' a' h1 h2 => by omega, .inl (by omega), by omega, HM.out.keep (below_drewN _ _), HB.out.drewN _, HS.out⟩
                · have hbq := str_beq_false hkk
                  have HKK := Lib.hid hkk
                  clear hkk
                  go_wp2
                  go_quiet (fail)
                  go_wp2
                  go_roundg (l.length - (k + 1))
                  case measure => have := HN3.out; omega
                  case rel =>
                    refine ⟨k + 1, last, al, by simp, rfl, by omega, rfl, hil, HAL.out, HKA.out, fun j' a' h1 h2 h3 => ?_, by have := HX.out; omega, by omega, HM.out.keep (below_drewN _ _), HB.out.drewN _, HS.out⟩
                    by_cases e : j' = k
                    · subst e
                      rw [HAK.out] at h3
                      cases h3
                      exact HKK.out
                    · exact HNO.out j' a' h1 (by omega) h3
              · have hkl : k = l.length := by omega
                subst hkl
                have hlast : last < l.length := (List.getElem?_eq_some_iff.1 HAL.out).1
                obtain ⟨bi, offi, ei, _, ci1, _, _⟩ := act_at (H.out.keep HB.out) HA.out
                cases ei
                obtain ⟨bl, offl, el, _, _, cl2, _⟩ := act_at (H.out.keep HB.out) HAL.out
                cases el
                have hS4 := HS.out
                have HL := Lib.hid hlast
                go_wp2
                go_region_held3 (fun w' => w'.cell? ⟨b0, off + i * 4 + 1, none⟩ = some (.string a.k) ∧ w'.cell? ⟨b0, off + last * 4 + 2, none⟩ = some (.int .i64 al.ver)) (first | exact ⟨ci1, cl2⟩ | exact ⟨c14, c24⟩) (first | (go_at_call 14; refine (get_calls (HM.out.drew) _ _).mono ?_; rintro e w4 ⟨rfl, hM4, hF4⟩; obtain ⟨b4, off4, e4, _, c14, _, _⟩ := act_at (H.out.keep (below_fr (HB.out.drew) (Nat.le_trans HSZ.out hS4) hF4 (fun i hi => Nat.le_trans HSZ.out (HM.out.base_le i hi)))) HA.out; cases e4; obtain ⟨b5, off5, e5, _, _, c24, _⟩ := act_at (H.out.keep (below_fr (HB.out.drew) (Nat.le_trans HSZ.out hS4) hF4 (fun i hi => Nat.le_trans HSZ.out (HM.out.base_le i hi)))) HAL.out; cases e5))
                have hB5 := below_fr (HB.out.drew) (Nat.le_trans HSZ.out hS4) hF4 (fun i hi => Nat.le_trans HSZ.out (HM.out.base_le i hi))
                have hS5 : w1.heap.size ≤ w4.heap.size := Nat.le_trans hS4 hF4.size
                have hhas : Has m2 a.k al.ver al.v := by
                  have := HK.out.has last al HL.out HAL.out (fun j' a' h1 h2 h3 => by rw [HKA.out]; exact HNO.out j' a' h1 h2 h3)
                  rwa [HKA.out] at this
                have hget := getM_has hhas
                rw [hget]
                obtain ⟨b6, off6, e6, _, _, _, cv3⟩ := act_at (H.out.keep hB5) HAL.out
                cases e6
                have HB5 := Lib.hid hB5
                have HM5 := Lib.hid hM4
                clear hB5 hM4 hF4 hhas hget ci1 cl2 c14 c24
                go_wp2
                go_roundg (l.length - (i + 1))
                case measure => have := HN.out; omega
                case rel => exact ⟨i + 1, _, by simp, by omega, rfl, HM5.out, HK.out.get _ _, HB5.out, hS5⟩
          · go_wp2
            go_ret
            exact ⟨rfl, HB.out⟩
end Go.Proofs.Ytjnghgalniapjaa
