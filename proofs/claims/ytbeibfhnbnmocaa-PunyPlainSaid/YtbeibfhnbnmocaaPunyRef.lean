/- What the document's Scalar, Same and Small tell. -/
import Derived.Test.YtbeibfhnbnmocaaPunyAwake
import Derived.Test.YtbeibfhnbnmocaaPPunyx1
set_option linter.unusedVariables false
set_option linter.unusedSimpArgs false
set_option maxRecDepth 100000
namespace Go.Proofs.Ytbeibfhnbnmocaa
open Go.RowKit Go.Proofs.YtbeibfhnbnmocaaW.PrintWords Go.Proofs.YtbeibfhnbnmocaaW.PrintMore Go.Proofs.Ytbeibfhnbnmocaa.PPuny Go.Proofs.Ytbeibfhnbnmocaa.Plain Puny

theorem RowAt.toC {w : World} {A : Option Addr} {l : List Int} (h : RowAt iC 1 w A l) (hl : l.length ≤ 1000000) : Kd.C (Kd.int .i32) w A l.length l := by
  refine ⟨rfl, by omega, fun hn => ?_⟩
  obtain ⟨b, off, rfl, _, _⟩ := at32 h (List.getElem?_eq_getElem hn)
  refine ⟨_, rfl, fun j p hp => ⟨[.int .i32 p], rfl, rfl, fun i u hu => ?_⟩⟩
  cases i with
  | zero =>
    simp only [List.getElem?_cons_zero, Option.some.injEq] at hu
    subst hu
    obtain ⟨b', off', e, _, this⟩ := at32 h hp
    cases e
    rwa [show ((⟨b, off, none⟩ : Addr).add (j * (Kd.int .i32).sz + 0)) = ⟨b, off + j, none⟩ by
      show ((⟨b, off, none⟩ : Addr).add (j * 1 + 0)) = _
      unfold Addr.add; split <;> simp_all]
  | succ i => simp at hu
theorem scalar_calls (y : Int) (w : World) : Calls Try.prog 8 #[.int .i32 y] w fun e w' => e = .returned (.bool (Lib.validRune y)) ∧ Below w.heap.size w w' := by
  refine (gatepostref02_Scalar.calls y (Lib.validRune y) w ?_).mono ?_
  · unfold gatepostref02_Scalar.f Lib.validRune
    split
    · split
      · split
        · congr 1; rw [eq_comm, decide_eq_true_eq]; omega
        · congr 1; rw [decide_eq_decide]; omega
      · congr 1; rw [eq_comm, decide_eq_false_iff_not]; omega
    · congr 1; rw [eq_comm, decide_eq_false_iff_not]; omega
  · rintro e w' ⟨rfl, hd⟩
    exact ⟨rfl, hd.below⟩
theorem same_l0 (l : List Int) (hl : l.length ≤ 1000000) : ∀ (d i : Nat), l.length - i < d → i ≤ l.length → gatepostref02_Same.l0 d l l (i : Int) = some true
  | 0, i, h, _ => absurd h (Nat.not_lt_zero _)
  | d + 1, i, h, hi => by
    rw [gatepostref02_Same.l0]
    by_cases hlt : (i : Int) < (l.length : Int)
    · rw [if_pos hlt, if_pos (by omega), if_pos hlt, if_pos rfl, wrap_in (by omega) (by omega)]
      exact same_l0 l hl d (i + 1) (by omega) (by omega)
    · rw [if_neg hlt]
theorem same_calls {A A' : Option Addr} {c c' : Nat} {l : List Int} (w : World) (h : RowAt iC 1 w A l) (h' : RowAt iC 1 w A' l) (hl : l.length ≤ 1000000) (hc : l.length ≤ c) (hc' : l.length ≤ c') :
    Calls Try.prog 10 #[.slice A l.length c, .slice A' l.length c'] w fun e w' => e = .returned (.bool true) ∧ Below w.heap.size w w' := by
  refine (gatepostref02_Same.calls (l.length + 1) A c l A' c' l true w (RowAt.toC h hl) hc (RowAt.toC h' hl) hc' ?_).mono ?_
  · unfold gatepostref02_Same.f
    rw [if_pos rfl]
    exact same_l0 l hl _ 0 (by omega) (by omega)
  · rintro e w' ⟨rfl, hd⟩
    exact ⟨rfl, hd.below⟩
theorem hyphen_l0 (s : ByteArray) (hs : s.size ≤ 1000000) : ∀ n d : Nat, n < d → n ≤ s.size → gatepostref04_hyphen.l0 d s ((n : Int) - 1) = some (Lib.lastIdx s 45 n)
  | 0, d, h, _ => by
    obtain ⟨d, rfl⟩ : ∃ e, d = e + 1 := ⟨d - 1, by omega⟩
    rw [gatepostref04_hyphen.l0, if_neg (by omega)]
    rfl
  | n + 1, d, h, hn => by
    obtain ⟨d, rfl⟩ : ∃ e, d = e + 1 := ⟨d - 1, by omega⟩
    have hb : bt s (n : Int) = ((s.data[n]!).toNat : Int) := bt_nat s n _ (byte_at s n (by omega))
    rw [gatepostref04_hyphen.l0, show ((n + 1 : Nat) : Int) - 1 = (n : Int) by omega, if_pos (by omega), if_pos (by omega), if_pos (by omega), hb, Lib.lastIdx]
    by_cases he : ((s.data[n]!).toNat : Int) = 45
    · rw [if_pos he, if_pos he]
    · rw [if_neg he, if_neg he, wrap_in (by omega) (by omega)]
      exact hyphen_l0 s hs n d (by omega) (by omega)
theorem hyphen_f (s : ByteArray) (hs : s.size ≤ 1000000) (d : Nat) (hd : s.size < d) : gatepostref04_hyphen.f d s = some ((hyph s.data.toList : Int) - 1) := by
  unfold gatepostref04_hyphen.f
  rw [wrap_in (by omega) (by omega), hyphen_l0 s hs s.size d hd (Nat.le_refl _), ← last_hyph]
  rfl
theorem small_at (s : List UInt8) (i : Nat) (c : UInt8) (h : s[i]? = some c) : (smallL s)[i]? = some (if i < hyph s then c else small c) := by
  unfold smallL
  have hi := (List.getElem?_eq_some_iff.1 h).1
  by_cases hlt : i < hyph s
  · rw [if_pos hlt, List.getElem?_append_left (by rw [List.length_take]; omega), List.getElem?_take, if_pos hlt, h]
  · rw [if_neg hlt, List.getElem?_append_right (by rw [List.length_take]; omega), List.length_take, List.getElem?_map, List.getElem?_drop, show hyph s + (i - min (hyph s) s.length) = i by omega, h]
    rfl
theorem small_len (s : List UInt8) : (smallL s).length = s.length := by
  unfold smallL
  rw [List.length_append, List.length_map, List.length_take, List.length_drop]
  omega
theorem small_l0 (s : ByteArray) (hs : s.size ≤ 1000000) : ∀ (d i : Nat), s.size - i < d → i ≤ s.size →
    gatepostref04_Small.l0 d s (((smallL s.data.toList).take i).map fun c => (c.toNat : Int)) ((hyph s.data.toList : Int) - 1) (i : Int) = some (strOfNums ((smallL s.data.toList).map fun c => (c.toNat : Int)))
  | 0, i, h, _ => absurd h (Nat.not_lt_zero _)
  | d + 1, i, h, hi => by
    have hl := len_data s
    have hsl := small_len s.data.toList
    by_cases hlt : i < s.size
    · obtain ⟨c, hc⟩ := byte_some hlt
      have hb := bt_nat s i c hc
      have hat := small_at _ i c hc
      have hsn := small_nat c
      have hc8 := c.toNat_lt
      have hlen : (((smallL s.data.toList).take i).map fun c => (c.toNat : Int)).length < 140737488355328 := by
        rw [List.length_map, List.length_take]
        omega
      have hst : ((smallL s.data.toList).take (i + 1)).map (fun c => (c.toNat : Int)) = (((smallL s.data.toList).take i).map fun c => (c.toNat : Int)) ++ [((if i < hyph s.data.toList then c else small c).toNat : Int)] := by
        rw [List.take_add_one, hat, List.map_append]
        rfl
      have ih := small_l0 s hs d (i + 1) (by omega) (by omega)
      rw [hst] at ih
      rw [gatepostref04_Small.l0, if_pos (by omega), if_pos (by omega), hb, wrap_in (x := (i : Int) + 1) (by omega) (by omega)]
      simp only [if_pos hlen]
      by_cases hh : (i : Int) > (hyph s.data.toList : Int) - 1
      · rw [if_pos hh]
        rw [if_neg (by omega), hsn] at ih
        by_cases h65 : (c.toNat : Int) ≥ 65
        · rw [if_pos h65]
          by_cases h90 : (c.toNat : Int) ≤ 90
          · rw [if_pos h90, show ((c.toNat : Int) + 32) % 256 = (c.toNat : Int) + 32 by omega]
            rw [if_pos ⟨h65, h90⟩] at ih
            exact ih
          · rw [if_neg h90]
            rw [if_neg (fun e => h90 e.2)] at ih
            exact ih
        · rw [if_neg h65]
          rw [if_neg (fun e => h65 e.1)] at ih
          exact ih
      · rw [if_neg hh]
        rw [if_pos (by omega)] at ih
        exact ih
    · rw [gatepostref04_Small.l0, if_neg (by omega)]
      rw [List.take_of_length_le (by omega)]
theorem nums_bytes (l : List UInt8) : strOfNums (l.map fun c => (c.toNat : Int)) = ⟨l.toArray⟩ := by
  unfold strOfNums
  rw [List.map_map]
  congr 2
  conv => rhs; rw [← List.map_id l]
  apply List.map_congr_left
  intro c _
  simp
theorem small_calls (s : ByteArray) (hs : s.size ≤ 1000000) (w : World) :
    Calls Try.prog 12 #[.string s] w fun e w' => e = .returned (.string ⟨(smallL s.data.toList).toArray⟩) ∧ Below w.heap.size w w' := by
  refine gatepostref04_Small.calls (s.size + 1) s _ w ?_
  unfold gatepostref04_Small.f
  rw [hyphen_f s hs _ (by omega)]
  have := small_l0 s hs (s.size + 1) 0 (by omega) (by omega)
  rw [nums_bytes] at this
  exact this
end Go.Proofs.Ytbeibfhnbnmocaa
