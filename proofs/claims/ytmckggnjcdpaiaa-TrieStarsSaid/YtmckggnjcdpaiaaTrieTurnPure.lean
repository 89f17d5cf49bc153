/- What the laws TrieTurn, TrieMore and TrieStars say of suffixes, in plain lists; the longest rule that is no exception. -/
import Derived.Test.YtmckggnjcdpaiaaTrieTellsWalk
import Derived.Test.YtmckggnjcdpaiaaRowR
set_option linter.unusedSimpArgs false
set_option linter.unusedVariables false
namespace Go.Proofs.Ytmckggnjcdpaiaa
open Go.RowKit
attribute [local go_sem] max_i64 min_i64

theorem longest_snoc (labels : List ByteArray) (e : Bool) (l : List Rule) (r : Rule) (n : Int) : longestR labels e (l ++ [r]) n = if r.except = e ∧ ofL r.labels labels = true then max (longestR labels e l n) r.labels.length else longestR labels e l n := by
  rw [longest_append]
  rfl
theorem suffix_off (l : List Rule) (r : Rule) (labels : List ByteArray) (h : ofL r.labels labels = false) : suffixR (l ++ [r]) labels = suffixR l labels := by
  unfold suffixR
  rw [longest_snoc, longest_snoc, if_neg (by simp [h]), if_neg (by simp [h])]
/-- Is an exception of the name? -/
def exceptOf (l : List Rule) (labels : List ByteArray) : Bool := l.any fun r => r.except && ofL r.labels labels
theorem except_iff (l : List Rule) (labels : List ByteArray) : exceptOf l labels = true ↔ 0 ≤ longestR labels true l (-1) := by
  have h := longest_best labels true l
  constructor
  · intro he
    simp only [exceptOf, List.any_eq_true, Bool.and_eq_true] at he
    obtain ⟨r, hr, h1, h2⟩ := he
    have := h.le _ ⟨r, hr, h1, h2, rfl⟩
    omega
  · intro hx
    rcases h.is with e | ⟨r, hr, h1, h2, _⟩
    · omega
    · simp only [exceptOf, List.any_eq_true, Bool.and_eq_true]
      exact ⟨r, hr, h1, h2⟩
theorem suffix_except (l : List Rule) (r : Rule) (labels : List ByteArray) (h : exceptOf l labels = true) (hr : r.except = false) : suffixR (l ++ [r]) labels = suffixR l labels := by
  have hx := (except_iff l labels).1 h
  unfold suffixR pick
  rw [longest_snoc, if_neg (show ¬ (r.except = true ∧ ofL r.labels labels = true) from fun e => by rw [hr] at e; cases e.1), if_pos hx, if_pos hx]
theorem suffix_more (l : List Rule) (r : Rule) (labels : List ByteArray) (h : exceptOf l labels = false) (hr : r.except = false) (ho : ofL r.labels labels = true) : suffixR (l ++ [r]) labels = max (r.labels.length : Int) (longestR labels false l (-1)) := by
  have hx : ¬ 0 ≤ longestR labels true l (-1) := fun e => by rw [(except_iff l labels).2 e] at h; cases h
  unfold suffixR pick
  rw [longest_snoc, if_neg (show ¬ (r.except = true ∧ ofL r.labels labels = true) from fun e => by rw [hr] at e; cases e.1), if_neg hx, longest_snoc, if_pos (show r.except = false ∧ ofL r.labels labels = true from ⟨hr, ho⟩), if_pos (by omega), Int.max_comm]
theorem ofL_longer : ∀ {r ls : List ByteArray} (m : ByteArray), r.length ≤ ls.length → ofL r (ls ++ [m]) = ofL r ls
  | [], _, _, _ => rfl
  | x :: r, [], _, h => by simp at h
  | x :: r, y :: ls, m, h => by
    simp only [List.cons_append, ofL]
    rw [ofL_longer m (by simpa using h)]
theorem longest_longer (e : Bool) (ls : List ByteArray) (m : ByteArray) : ∀ (l : List Rule) (n : Int), (∀ r ∈ l, r.labels.length ≤ ls.length) → longestR (ls ++ [m]) e l n = longestR ls e l n
  | [], _, _ => rfl
  | r :: l, n, h => by
    simp only [longestR]
    rw [ofL_longer m (h r (by simp)), longest_longer e ls m l _ (fun q hq => h q (by simp [hq]))]
theorem suffix_longer (l : List Rule) (ls : List ByteArray) (m : ByteArray) (h0 : ls ≠ []) (h : ∀ r ∈ l, r.labels.length ≤ ls.length) : suffixR l (ls ++ [m]) = suffixR l ls := by
  have : 0 < ls.length := List.length_pos_iff.2 h0
  unfold suffixR pick
  rw [longest_longer true ls m l _ h, longest_longer false ls m l _ h, show min (((ls ++ [m]).length : Nat) : Int) 1 = min ((ls.length : Nat) : Int) 1 by simp; omega]
theorem suffix_stars (x m : ByteArray) : suffixR [⟨[x, star, star], false⟩] [x, m, m] = 3 := by
  simp [suffixR, pick, longestR, ofL]
  decide
theorem except_take {l : List RulV} {ls : List ByteArray} {i : Nat} {x : RulV} (hx : l[i]? = some x) : exceptOf ((l.take (i + 1)).map (·.r)) ls = (exceptOf ((l.take i).map (·.r)) ls || (x.r.except && ofL x.r.labels ls)) := by
  rw [take_snoc hx, List.map_append, exceptOf, List.any_append]
  simp [exceptOf]

set_option maxHeartbeats 1000000 in
theorem plain_calls (A : Option Addr) (c : Nat) (l : List RulV) (A2 : Option Addr) (c2 : Nat) (ls : List ByteArray) (w : World) (h : RowAt RulV.cells 2 w A l) (hok : ∀ x ∈ l, x.ok w) (h2 : RowAt strC 1 w A2 ls) (hlc : l.length ≤ c) (hcm : c ≤ maxLen) (hlc2 : ls.length ≤ c2) (hcm2 : c2 ≤ maxLen) :
    Calls Try.prog 16 #[.slice A l.length c, .slice A2 ls.length c2] w fun e w' => e = .returned (.int .i64 (longestR ls false (l.map (·.r)) (-1))) ∧ Below w.heap.size w w' := by
  have H := Lib.hid h
  have H2 := Lib.hid h2
  have HOK := Lib.hid hok
  clear h h2 hok
  go_enter Try.func16, Try.ntmps16
  go_wp2
  go_loopg [5, 6] l.length (fun n v5 v6 w' => Hid (∃ (i : Nat) (m : Int), v6 = .int .i64 i ∧ v5 = .int .i64 m ∧ i ≤ l.length ∧ n = l.length - i ∧ longestR ls false ((l.drop i).map (·.r)) m = longestR ls false (l.map (·.r)) (-1) ∧ Below w.heap.size w w'))
  case atStart => exact ⟨0, -1, rfl, rfl, Nat.zero_le _, rfl, rfl, Below.refl _ w⟩
  case round =>
    obtain ⟨i, m, rfl, rfl, hi, hn, hm, hb⟩ := hrel.out
    clear hrel
    have HN := Lib.hid hn
    have HM := Lib.hid hm
    have HB := Lib.hid hb
    clear hn hm hb
    by_cases hlt : i < l.length
    · obtain ⟨x, hx⟩ : ∃ x, l[i]? = some x := ⟨l[i]'hlt, List.getElem?_eq_getElem hlt⟩
      obtain ⟨b, off, rfl, c0, c1⟩ := rul_at (H.out.keep HB.out) hx
      have hxo := (HOK.out x (List.mem_of_getElem? hx)).keep HB.out
      have hd : l.drop i = x :: l.drop (i + 1) := by
        obtain ⟨h1, rfl⟩ := List.getElem?_eq_some_iff.1 hx
        exact List.drop_eq_getElem_cons h1
      have hm := HM.out
      rw [hd, List.map_cons, longestR] at hm
      have HO := Lib.hid (of_calls x A2 c2 ls wr hxo (H2.out.keep HB.out) hlc2 hcm2)
      have HX := Lib.hid hx
      clear hx hd hxo
      by_cases hex : x.r.except = false
      · rw [hex] at HO c1
        cases ho : ofL x.r.labels ls
        · rw [ho] at HO
          rw [if_neg (by simp [ho])] at hm
          have HM := Lib.hid hm
          have HEX := Lib.hid hex
          clear hm ho hex
          go_wp2_with (go_at_call 15; refine HO.out.mono ?_; rintro e w5 ⟨rfl, hb5⟩; have HB5 := Lib.hid (belowOn HB.out HB.out.size hb5); clear hb5)
          go_roundg (l.length - (i + 1))
          case measure => have := HN.out; omega
          case rel => exact ⟨i + 1, m, (by first | exact wrap_up _ _ _ hlt hlc hcm | simp), rfl, by omega, rfl, HM.out, HB5.out⟩
        · rw [ho] at HO
          rw [if_pos ⟨hex, ho⟩] at hm
          have HM := Lib.hid hm
          have HEX := Lib.hid hex
          clear hm ho hex
          go_wp2_with (go_at_call 15; refine HO.out.mono ?_; rintro e w5 ⟨rfl, hb5⟩; have HB5 := Lib.hid (belowOn HB.out HB.out.size hb5); obtain ⟨b5, off5, e5, c05, c15⟩ := rul_at (H.out.keep HB5.out) HX.out; cases e5; clear hb5)
          go_roundg (l.length - (i + 1))
          case measure => have := HN.out; omega
          case rel => exact ⟨i + 1, _, (by first | exact wrap_up _ _ _ hlt hlc hcm | simp), rfl, by omega, rfl, HM.out, HB5.out⟩
      · rw [if_neg (fun h => hex h.1)] at hm
        have hex' : x.r.except = true := by simpa using hex
        rw [hex'] at c1
        have HM := Lib.hid hm
        clear hm hex hex'
        go_wp2
        go_roundg (l.length - (i + 1))
        case measure => have := HN.out; omega
        case rel => exact ⟨i + 1, m, (by first | exact wrap_up _ _ _ hlt hlc hcm | simp), rfl, by omega, rfl, HM.out, HB.out⟩
    · have hd : l.drop i = [] := List.drop_eq_nil_of_le (by omega)
      have hm := HM.out
      rw [hd, List.map_nil, longestR] at hm
      have HM := Lib.hid hm
      clear hm hd
      go_wp2
      go_ret
      exact ⟨by rw [← HM.out]; rfl, HB.out⟩
end Go.Proofs.Ytmckggnjcdpaiaa
