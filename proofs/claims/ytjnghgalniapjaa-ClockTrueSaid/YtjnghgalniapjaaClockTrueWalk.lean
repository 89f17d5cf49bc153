/- The law ClockTrue, walked. -/
import Derived.Test.YtjnghgalniapjaaClockActs
import Derived.Deep.RegionHeld3
set_option linter.unusedSimpArgs false
set_option linter.unusedVariables false
namespace Go.Proofs.Ytjnghgalniapjaa
open Go.RowKit

/-- The text of the inner loop: the place of the last act that put a text; -1: there is none. -/
def LastAt (l : List Act) (k : Nat) (key : ByteArray) (v : Int) : Prop := (v = -1 ∧ ∀ (j' : Nat) (a' : Act), j' < k → l[j']? = some a' → a'.put = true → a'.k ≠ key) ∨ ∃ (j : Nat) (b : Act), v = j ∧ LastPut l k key j b
theorem LastAt.is {l : List Act} {i j : Nat} {key : ByteArray} {b : Act} {v : Int} (h : LastAt l i key v) (hp : LastPut l i key j b) : v = j := by
  obtain ⟨h1, h2, h3, h4, h5⟩ := hp
  rcases h with ⟨_, hno⟩ | ⟨j', b', rfl, g1, g2, g3, g4, g5⟩
  · exact absurd h4 (hno j b h1 h2 h3)
  · rcases Nat.lt_trichotomy j j' with e | e | e
    · exact absurd g4 (h5 j' b' e g1 g2 g3)
    · rw [e]
    · exact absurd h4 (g5 j b e h1 h2 h3)
theorem LastAt.yes {l : List Act} {k : Nat} {key : ByteArray} {a : Act} {v : Int} (h : LastAt l k key v) (ha : l[k]? = some a) (hp : a.put = true) (hk : a.k = key) : LastAt l (k + 1) key k :=
  .inr ⟨k, a, rfl, by omega, ha, hp, hk, fun j' a' h1 h2 => by omega⟩
theorem LastAt.no {l : List Act} {k : Nat} {key : ByteArray} {a : Act} {v : Int} (h : LastAt l k key v) (ha : l[k]? = some a) (hn : a.put = true → a.k ≠ key) : LastAt l (k + 1) key v := by
  have hk : ∀ (j' : Nat) (a' : Act), j' = k → l[j']? = some a' → a'.put = true → a'.k ≠ key := by
    rintro j' a' rfl h3 h4
    rw [ha] at h3
    cases h3
    exact hn h4
  rcases h with ⟨hv, hno⟩ | ⟨j, b, hv, g1, g2, g3, g4, g5⟩
  · exact .inl ⟨hv, fun j' a' h1 h3 h4 => if e : j' = k then hk j' a' e h3 h4 else hno j' a' (by omega) h3 h4⟩
  · exact .inr ⟨j, b, hv, by omega, g2, g3, g4, fun j' a' h1 h2 h3 h4 => if e : j' = k then hk j' a' e h3 h4 else g5 j' a' h1 (by omega) h3 h4⟩

set_option maxHeartbeats 2000000 in
set_option maxRecDepth 100000 in
theorem true_calls (r : Int) (A : Option Addr) (c : Nat) (l : List Act) (w : World) (hr0 : 0 ≤ r) (hr1 : r ≤ 255) (h : RowAt Act.cells 4 w A l) (hlc : l.length ≤ maxLen) :
    Calls Try.prog 4 #[.int .u8 r, .slice A l.length c] w fun e w' => e = .returned (.bool true) ∧ Below w.heap.size w w' := by
  have H := Lib.hid h
  clear h
  go_enter Try.func4, Try.ntmps4
  go_wp2_with fail
  refine (awake_calls _).mono ?_
  rintro e w1 ⟨rfl, hb1⟩
  have HB1 := Lib.hid hb1
  have HR1 := Lib.hid (H.out.keep hb1)
  clear hb1
  go_wp2_with fail
  refine (few_calls A c l w1 HR1.out hlc).mono ?_
  rintro e w' ⟨b, rfl, hfew, rfl⟩
  have HF := Lib.hid hfew
  clear hfew
  cases b with
  | false =>
    go_wp2
    go_ret
    exact ⟨rfl, HB1.out⟩
  | true =>
    have hlen : l.length ≤ 40 := HF.out rfl
    go_wp2_with fail
    refine (new_ok (1 + r % 6) _ (by omega) (by omega)).mono ?_
    rintro e w2 ⟨rfl, hM2, hb2⟩
    have hb3 := below_step HB1.out HB1.out.size hb2
    have HB3 := Lib.hid hb3
    have HM2 := Lib.hid hM2
    have HS2 := Lib.hid hb2.size
    have HSZ := Lib.hid HB1.out.size
    clear hM2 hb2 hb3
    go_wp2
    go_loopg [8] l.length (fun n v8 w' => Hid (∃ (i : Nat) (pv : Value) (m : Memo), v8 = .int .i64 i ∧ i ≤ l.length ∧ n = l.length - i ∧ MemoAt w' w1.heap.size (w1.heap.size + 1) w1.heap.size pv m ∧ TInv l i (1 + r % 6).toNat m ∧ Below w.heap.size w w' ∧ w1.heap.size ≤ w'.heap.size))
    case atStart => exact ⟨0, _, _, rfl, Nat.zero_le _, rfl, HM2.out, TInv.start l _ (by omega) (by omega), HB3.out, HS2.out⟩
    case round =>
      obtain ⟨i, pv, m, rfl, hi, hn, hM, hK, hB, hS⟩ := hrel.out
      clear hrel
      have HN := Lib.hid hn
      have HM := Lib.hid hM
      have HK := Lib.hid hK
      have HB := Lib.hid hB
      have HS := Lib.hid hS
      clear hn hM hK hB HM2 HB3 HS2 hS
      by_cases hlt : i < l.length
      · obtain ⟨a, ha⟩ : ∃ a, l[i]? = some a := ⟨l[i]'hlt, List.getElem?_eq_getElem hlt⟩
        have HA := Lib.hid ha
        obtain ⟨b0, off, rfl, c0, c1, c2, c3⟩ := act_at (H.out.keep HB.out) ha
        clear ha
        go_wp2_with fail
        clear c0 c1 c2 c3
        refine (do_calls HM.out HS.out a).mono ?_
        rintro e w3 ⟨rfl, ⟨pv3, hM3⟩, hF3⟩
        have hB3 := below_fr HB.out (Nat.le_trans HSZ.out HS.out) hF3 (fun i hi => Nat.le_trans HSZ.out (HM.out.base_le i hi))
        have hS3 : w1.heap.size ≤ w3.heap.size := Nat.le_trans HS.out hF3.size
        have hK3 := HK.out.step HA.out
        have htold := fun h => HK.out.told (a := a) h
        have hll := hK3.len
        have hll2 := hK3.ok.len
        rw [hK3.room] at hll2
        have hlen1 : ((doM m a).1.l.length : Int) ≤ 1 + r % 6 := by omega
        have hlen2 : ((doM m a).1.l.length : Int) ≤ (i : Int) + 1 := by omega
        have HK3 := Lib.hid hK3
        have HT := Lib.hid htold
        have HB3 := Lib.hid hB3
        have HM3 := Lib.hid hM3
        have HS3 := Lib.hid hS3
        clear hM3 hF3 hB3 hS3 hK3 hll hll2 htold
        generalize hv : (doM m a).2.1 = v at HT ⊢
        generalize ho : (doM m a).2.2 = ok at HT ⊢
        clear hv ho
        generalize (doM m a).1 = m3 at *
        cases ok with
        | false =>
          go_wp2_with (go_at_call 13; refine (len_calls HM3.out).mono ?_; rintro e w' ⟨rfl, rfl⟩)
          go_roundg (l.length - (i + 1))
          case measure => have := HN.out; omega
          case rel => exact ⟨i + 1, pv3, m3, by simp, by omega, rfl, HM3.out, HK3.out, HB3.out, HS3.out⟩
        | true =>
          go_wp2_with (go_at_call 13; refine (len_calls HM3.out).mono ?_; rintro e w' ⟨rfl, rfl⟩)
          clear hlen1 hlen2
          go_loopg [11, 12] i (fun n v11 v12 w' => Hid (∃ (k : Nat) (la : Int), v12 = .int .i64 k ∧ v11 = .int .i64 la ∧ k ≤ i ∧ n = i - k ∧ LastAt l k a.k la ∧ MemoAt w' w1.heap.size (w1.heap.size + 1) w1.heap.size pv3 m3 ∧ Below w.heap.size w w' ∧ w1.heap.size ≤ w'.heap.size))
          case atStart => exact ⟨0, -1, rfl, rfl, Nat.zero_le _, rfl, .inl ⟨rfl, fun j' a' h => by omega⟩, HM3.out, HB3.out, HS3.out⟩
          case round =>
            obtain ⟨k, la, rfl, rfl, hk, hn3, hla, hM4, hB4, hS4⟩ := hrel.out
            clear hrel
            have HN3 := Lib.hid hn3
            have HLA := Lib.hid hla
            have HM4 := Lib.hid hM4
            have HB4 := Lib.hid hB4
            have HS4 := Lib.hid hS4
            clear hn3 hla hM4 hB4 hS4 HM3 HB3 HS3
            by_cases hlt3 : k < i
            · obtain ⟨ak, hak⟩ : ∃ ak, l[k]? = some ak := ⟨l[k]'(by omega), List.getElem?_eq_getElem (by omega)⟩
              have HAK := Lib.hid hak
              have hkl : k < l.length := by omega
              obtain ⟨bk, offk, ek, ck0, ck1, _, _⟩ := act_at (H.out.keep HB4.out) hak
              cases ek
              obtain ⟨bi, offi, ei, _, ci1, _, _⟩ := act_at (H.out.keep HB4.out) HA.out
              cases ei
              clear hak
              cases hp : ak.put with
              | false =>
                rw [hp] at ck0
                have HP := Lib.hid hp
                clear hp
                go_wp2
                go_quiet (fail)
                go_wp2
                go_roundg (i - (k + 1))
                case measure => have := HN3.out; omega
                case rel => exact ⟨k + 1, la, by simp, rfl, by omega, rfl, HLA.out.no HAK.out (fun h => by rw [HP.out] at h; cases h), HM4.out.keep (below_drewN _ _), HB4.out.drewN _, HS4.out⟩
              | true =>
                rw [hp] at ck0
                have HP := Lib.hid hp
                clear hp
                by_cases hkk : ak.k = a.k
                · have hbq := str_beq_true hkk
                  have HKK := Lib.hid hkk
                  clear hkk
                  go_wp2
                  go_quiet (fail)
                  go_wp2
                  go_roundg (i - (k + 1))
                  case measure => have := HN3.out; omega
                  case rel => exact ⟨k + 1, k, by simp, rfl, by omega, rfl, HLA.out.yes HAK.out HP.out HKK.out, HM4.out.keep (below_drewN _ _), HB4.out.drewN _, HS4.out⟩
                · have hbq := str_beq_false hkk
                  have HKK := Lib.hid hkk
                  clear hkk
                  go_wp2
                  go_quiet (fail)
                  go_wp2
                  go_roundg (i - (k + 1))
                  case measure => have := HN3.out; omega
                  case rel => exact ⟨k + 1, la, by simp, rfl, by omega, rfl, HLA.out.no HAK.out (fun _ => HKK.out), HM4.out.keep (below_drewN _ _), HB4.out.drewN _, HS4.out⟩
            · have hki : k = i := by omega
              obtain ⟨j, b, hp, hver, hbv⟩ := HT.out (by first | rfl | trivial)
              have hlaj : la = j := by
                have := HLA.out
                rw [hki] at this
                exact this.is hp
              have hji : j < i := hp.1
              subst hlaj
              subst hki
              have hjl : j < l.length := by omega
              have hj0 : decide ((j : Int) < 0) = false := by simp
              obtain ⟨bj, offj, ej, _, _, cj2, cj3⟩ := act_at (H.out.keep HB4.out) hp.2.1
              cases ej
              obtain ⟨bi, offi, ei, _, _, ci2, _⟩ := act_at (H.out.keep HB4.out) HA.out
              cases ei
              rw [hbv] at cj3
              rw [hver] at cj2
              clear hbv hver hp
              go_wp2
              go_quiet (fail)
              go_wp2
              go_roundg (l.length - (k + 1))
              case measure => have := HN.out; omega
              case rel => exact ⟨k + 1, pv3, m3, by simp, by omega, rfl, HM4.out.keep (below_drewN _ _), HK3.out, HB4.out.drewN _, HS4.out⟩
      · go_wp2
        go_ret
        exact ⟨rfl, HB.out⟩
end Go.Proofs.Ytjnghgalniapjaa
