/- The reference of suffixes, and what the laws let in. -/
import Derived.Test.YtgljkgkmbfhgiaaDoorTrieNew
set_option linter.unusedSimpArgs false
set_option linter.unusedVariables false
namespace Go.Proofs.YtgljkgkmbfhgiaaDoor
open Go.RowKit
attribute [local go_sem] max_i64 min_i64

/-- What the laws let in. -/
def fewS (l : List ByteArray) : Bool := decide (l.length ≤ 20) && l.all fun s => decide (s.size ≤ 60)
def fewR (l : List RulV) : Bool := decide (l.length ≤ 20) && l.all fun x => decide (x.r.labels.length ≤ 8) && x.r.labels.all fun s => decide (s.size ≤ 40)
theorem fewS_not {l : List ByteArray} {s : ByteArray} (h : s ∈ l) (hs : (s.size : Int) > 60) : fewS l = false := by
  cases e : fewS l
  · rfl
  · simp only [fewS, Bool.and_eq_true, decide_eq_true_eq, List.all_eq_true] at e
    have := e.2 s h
    omega
theorem fewS_long {l : List ByteArray} (h : ¬ (l.length : Int) ≤ 20) : fewS l = false := by
  have : ¬ l.length ≤ 20 := by omega
  simp [fewS, this]
theorem fewS_all {l : List ByteArray} (h : l.length ≤ 20) (ha : ∀ s ∈ l, s.size ≤ 60) : fewS l = true := by
  simp only [fewS, Bool.and_eq_true, decide_eq_true_eq, List.all_eq_true]
  exact ⟨h, ha⟩
theorem fewR_not {l : List RulV} {x : RulV} (h : x ∈ l) (hs : (x.r.labels.length : Int) > 8 ∨ ∃ s ∈ x.r.labels, (s.size : Int) > 40) : fewR l = false := by
  cases e : fewR l
  · rfl
  · simp only [fewR, Bool.and_eq_true, decide_eq_true_eq, List.all_eq_true] at e
    have := e.2 x h
    rcases hs with hs | ⟨s, h1, h2⟩
    · omega
    · have := this.2 s h1
      omega
theorem fewR_long {l : List RulV} (h : ¬ (l.length : Int) ≤ 20) : fewR l = false := by
  have : ¬ l.length ≤ 20 := by omega
  simp [fewR, this]
theorem fewR_all {l : List RulV} (h : l.length ≤ 20) (ha : ∀ x ∈ l, x.r.labels.length ≤ 8 ∧ ∀ s ∈ x.r.labels, s.size ≤ 40) : fewR l = true := by
  simp only [fewR, Bool.and_eq_true, decide_eq_true_eq, List.all_eq_true]
  exact ⟨h, ha⟩
theorem take_all {α : Type} {l : List α} {i : Nat} {a : α} {p : α → Prop} (h : ∀ s ∈ l.take i, p s) (ha : l[i]? = some a) (hp : p a) : ∀ s ∈ l.take (i + 1), p s := by
  rw [take_snoc ha]
  intro s hs
  rcases List.mem_append.1 hs with hs | hs
  · exact h s hs
  · simp only [List.mem_singleton] at hs; rw [hs]; exact hp
set_option maxHeartbeats 1000000 in
theorem few_rules (A : Option Addr) (c : Nat) (l : List RulV) (w : World) (h : RowAt RulV.cells 2 w A l) (hok : ∀ x ∈ l, x.ok w) (hlc : l.length ≤ c) (hcm : c ≤ maxLen) :
    Calls Tryd.prog 23 #[.slice A l.length c] w fun e w' => e = .returned (.bool (fewR l)) ∧ w = w' := by
  have H := Lib.hid h
  have HOK := Lib.hid hok
  clear h hok
  go_enter Tryd.func23, Tryd.ntmps23
  go_wp2
  go_loopg [3, 4] l.length (fun n v3 v4 w' => Hid (∃ (i : Nat), v3 = .int .i64 i ∧ i ≤ l.length ∧ n = l.length - i ∧ (∀ x ∈ l.take i, x.r.labels.length ≤ 8 ∧ ∀ s ∈ x.r.labels, s.size ≤ 40) ∧ w' = w))
  case atStart => exact ⟨0, rfl, Nat.zero_le _, rfl, by simp, rfl⟩
  case round =>
    obtain ⟨i, rfl, hi, hn, hall, rfl⟩ := hrel.out
    clear hrel
    have HALL := Lib.hid hall
    clear hall
    have HN := Lib.hid hn
    clear hn
    by_cases hlt : i < l.length
    · by_cases h21 : i < 21
      · obtain ⟨x, hx⟩ : ∃ x, l[i]? = some x := ⟨l[i]'hlt, List.getElem?_eq_getElem hlt⟩
        obtain ⟨b, off, rfl, c0, c1⟩ := rul_at H.out hx
        have h21' : (i : Int) < 21 := by omega
        have HXO := Lib.hid (HOK.out x (List.mem_of_getElem? hx))
        have HX := Lib.hid hx
        clear hx
        go_wp2
        go_loopg [4] x.r.labels.length (fun n v4 w' => Hid (∃ (j : Nat), v4 = .int .i64 j ∧ j ≤ x.r.labels.length ∧ n = x.r.labels.length - j ∧ (∀ s ∈ x.r.labels.take j, s.size ≤ 40) ∧ w' = wr))
        case atStart => exact ⟨0, rfl, Nat.zero_le _, rfl, by simp, rfl⟩
        case round =>
          obtain ⟨j, rfl, hj, hn, hall2, rfl⟩ := hrel.out
          clear hrel
          have HALL2 := Lib.hid hall2
          clear hall2
          have HNJ := Lib.hid hn
          clear hn
          by_cases hjl : j < x.r.labels.length
          · by_cases h9 : j < 9
            · obtain ⟨s, hs⟩ : ∃ s, x.r.labels[j]? = some s := ⟨x.r.labels[j]'hjl, List.getElem?_eq_getElem hjl⟩
              obtain ⟨sb, soff, hsA, l0⟩ := str_at HXO.out.2.2 hs
              have HSA := Lib.hid hsA
              rw [hsA] at c0
              have hxc := HXO.out.1
              have HS := Lib.hid hs
              clear hs hsA
              by_cases h40 : (s.size : Int) > 40
              · go_wp2
                go_ret
                exact ⟨by rw [fewR_not (List.mem_of_getElem? HX.out) (.inr ⟨s, List.mem_of_getElem? HS.out, h40⟩)]; rfl, rfl⟩
              · go_wp2
                rw [← HSA.out]
                go_roundg (x.r.labels.length - (j + 1))
                case measure => have := HNJ.out; omega
                case rel => exact ⟨j + 1, (by first | exact wrap_up _ _ _ hjl HXO.out.1 HXO.out.2.1 | simp), by omega, rfl, take_all HALL2.out HS.out (by omega), rfl⟩
            · by_cases h8 : (x.r.labels.length : Int) > 8
              · go_wp2
                go_ret
                exact ⟨by rw [fewR_not (List.mem_of_getElem? HX.out) (.inl h8)]; rfl, rfl⟩
              · omega
          · by_cases h8 : (x.r.labels.length : Int) > 8
            · go_wp2
              go_ret
              exact ⟨by rw [fewR_not (List.mem_of_getElem? HX.out) (.inl h8)]; rfl, rfl⟩
            · go_wp2
              go_roundg (l.length - (i + 1))
              case measure => have := HN.out; omega
              case rel => exact ⟨i + 1, (by first | exact wrap_up _ _ _ hlt hlc hcm | simp), by omega, rfl, take_all HALL.out HX.out ⟨by omega, by have := HALL2.out; rwa [List.take_of_length_le (by omega)] at this⟩, rfl⟩
      · by_cases h20 : (l.length : Int) ≤ 20
        · omega
        · go_wp2
          go_ret
          exact ⟨by rw [fewR_long (by omega)]; rfl, rfl⟩
    · by_cases h20 : (l.length : Int) ≤ 20
      · go_wp2
        go_ret
        exact ⟨by rw [fewR_all (by omega) (by have := HALL.out; rwa [List.take_of_length_le (by omega)] at this)]; rfl, rfl⟩
      · go_wp2
        go_ret
        exact ⟨by rw [fewR_long (by omega)]; rfl, rfl⟩

theorem ofL_drop {x s : ByteArray} {r ls : List ByteArray} {j : Nat} (hx : r[j]? = some x) (hs : ls[j]? = some s) : ofL (r.drop j) (ls.drop j) = ((decide (x = s) || decide (x = star)) && ofL (r.drop (j + 1)) (ls.drop (j + 1))) := by
  obtain ⟨h1, rfl⟩ := List.getElem?_eq_some_iff.1 hx
  obtain ⟨h2, rfl⟩ := List.getElem?_eq_some_iff.1 hs
  rw [List.drop_eq_getElem_cons h1, List.drop_eq_getElem_cons h2, ofL]
set_option maxHeartbeats 1000000 in
theorem of_calls (x : RulV) (A : Option Addr) (c : Nat) (ls : List ByteArray) (w : World) (hx : x.ok w) (h : RowAt strC 1 w A ls) (hlc : ls.length ≤ c) (hcm : c ≤ maxLen) :
    Calls Tryd.prog 77 #[.agg #[.slice x.A x.r.labels.length x.c, .bool x.r.except], .slice A ls.length c] w fun e w' => e = .returned (.bool (ofL x.r.labels ls)) ∧ Below w.heap.size w w' := by
  have H := Lib.hid h
  have HXO := Lib.hid hx
  clear h hx
  have hb0 := Blk.new w 67 #[.slice x.A x.r.labels.length x.c, .bool x.r.except]
  have hbe := (Below.refl _ w).alloc (Nat.le_refl _) (.cells #[.slice x.A x.r.labels.length x.c, .bool x.r.except] 67)
  have HB := Lib.hid hb0
  have HBE := Lib.hid hbe
  clear hb0 hbe
  by_cases hlen : (x.r.labels.length : Int) > ls.length
  · have hf : ofL x.r.labels ls = false := by
      cases e : ofL x.r.labels ls
      · rfl
      · have := ofL_len e; omega
    rw [hf]
    clear hf
    go_enter Tryd.func77, Tryd.ntmps77
    go_wp2
    go_ret
    exact ⟨rfl, HBE.out⟩
  · go_enter Tryd.func77, Tryd.ntmps77
    go_wp2
    generalize w.alloc (.cells #[.slice x.A x.r.labels.length x.c, .bool x.r.except] 67) = W at HB HBE ⊢
    go_loopg [5] x.r.labels.length (fun n v5 w' => Hid (∃ (j : Nat), v5 = .int .i64 j ∧ j ≤ x.r.labels.length ∧ n = x.r.labels.length - j ∧ ofL (x.r.labels.drop j) (ls.drop j) = ofL x.r.labels ls ∧ Blk w' w.heap.size 67 #[.slice x.A x.r.labels.length x.c, .bool x.r.except] ∧ Below w.heap.size w w'))
    case atStart => exact ⟨0, rfl, Nat.zero_le _, rfl, rfl, HB.out, HBE.out⟩
    case round =>
      obtain ⟨j, rfl, hj, hn, ho, hb, hbe⟩ := hrel.out
      clear hrel HB HBE
      have HB := Lib.hid hb
      have HBE := Lib.hid hbe
      clear hb hbe
      have HN := Lib.hid hn
      have HO := Lib.hid ho
      clear hn ho
      have x0 := HB.out.cell 0
      simp only [List.getElem?_toArray, List.getElem?_cons_zero, List.getElem?_cons_succ] at x0
      have hglt := HB.out.lt
      by_cases hjl : j < x.r.labels.length
      · have hjs : j < ls.length := by omega
        obtain ⟨s, hs⟩ : ∃ s, x.r.labels[j]? = some s := ⟨x.r.labels[j]'hjl, List.getElem?_eq_getElem hjl⟩
        obtain ⟨t, ht⟩ : ∃ t, ls[j]? = some t := ⟨ls[j]'hjs, List.getElem?_eq_getElem hjs⟩
        obtain ⟨sb, soff, hsA, l0⟩ := str_at (HXO.out.2.2.keep HBE.out) hs
        obtain ⟨tb, toff, rfl, m0⟩ := str_at (H.out.keep HBE.out) ht
        have hxc := HXO.out.1
        have hxm := HXO.out.2.1
        have hd := ofL_drop hs ht
        rw [HO.out] at hd
        have HD := Lib.hid hd
        have hsA' := hsA
        clear hd
        rw [hsA] at x0
        by_cases hst : s = t
        · have hq := str_beq_true hst
          have hd : ofL (x.r.labels.drop (j + 1)) (ls.drop (j + 1)) = ofL x.r.labels ls := by rw [HD.out]; simp [hst]
          have HD2 := Lib.hid hd
          clear hst hd
          go_wp2
          go_quiet (fail)
          go_wp2
          rw [← hsA']
          go_roundg (x.r.labels.length - (j + 1))
          case measure => have := HN.out; omega
          case rel => exact ⟨j + 1, (by first | exact wrap_up _ _ _ hjl hxc hxm | simp), by omega, rfl, HD2.out, HB.out.drewN _, HBE.out.drewN _⟩
        · have hq := str_beq_false hst
          by_cases hss : s = star
          · have hq2 : (s.toList == ([42] : List UInt8)) = true := by rw [← star_list]; exact str_beq_true hss
            have hd : ofL (x.r.labels.drop (j + 1)) (ls.drop (j + 1)) = ofL x.r.labels ls := by rw [HD.out]; simp [hss]
            have HD2 := Lib.hid hd
            clear hst hd hss
            go_wp2
            go_quiet (fail)
            go_wp2
            rw [← hsA']
            go_roundg (x.r.labels.length - (j + 1))
            case measure => have := HN.out; omega
            case rel => exact ⟨j + 1, (by first | exact wrap_up _ _ _ hjl hxc hxm | simp), by omega, rfl, HD2.out, HB.out.drewN _, HBE.out.drewN _⟩
          · have hq2 : (s.toList == ([42] : List UInt8)) = false := by rw [← star_list]; exact str_beq_false hss
            have hd : ofL x.r.labels ls = false := by rw [HD.out]; simp [hst, hss]
            have HD2 := Lib.hid hd
            clear hst hd hss
            go_wp2
            go_quiet (fail)
            go_wp2
            go_ret
            exact ⟨by rw [HD2.out]; rfl, HBE.out.drewN _⟩
      · have hd : x.r.labels.drop j = [] := List.drop_eq_nil_of_le (by omega)
        have ho := HO.out
        rw [hd, ofL] at ho
        have HO2 := Lib.hid ho
        clear ho hd
        go_wp2
        go_ret
        exact ⟨by rw [← HO2.out]; rfl, HBE.out⟩

set_option maxHeartbeats 1000000 in
theorem longest_calls (A : Option Addr) (c : Nat) (l : List RulV) (A2 : Option Addr) (c2 : Nat) (ls : List ByteArray) (ex : Bool) (w : World) (h : RowAt RulV.cells 2 w A l) (hok : ∀ x ∈ l, x.ok w) (h2 : RowAt strC 1 w A2 ls) (hlc : l.length ≤ c) (hcm : c ≤ maxLen) (hlc2 : ls.length ≤ c2) (hcm2 : c2 ≤ maxLen) :
    Calls Tryd.prog 64 #[.slice A l.length c, .slice A2 ls.length c2, .bool ex] w fun e w' => e = .returned (.int .i64 (longestR ls ex (l.map (·.r)) (-1))) ∧ Below w.heap.size w w' := by
  have H := Lib.hid h
  have H2 := Lib.hid h2
  have HOK := Lib.hid hok
  clear h h2 hok
  go_enter Tryd.func64, Tryd.ntmps64
  go_wp2
  go_loopg [7, 8] l.length (fun n v7 v8 w' => Hid (∃ (i : Nat) (m : Int), v8 = .int .i64 i ∧ v7 = .int .i64 m ∧ i ≤ l.length ∧ n = l.length - i ∧ longestR ls ex ((l.drop i).map (·.r)) m = longestR ls ex (l.map (·.r)) (-1) ∧ Below w.heap.size w w'))
  case atStart => exact ⟨0, -1, rfl, rfl, Nat.zero_le _, rfl, rfl, Below.refl _ w⟩
  case round =>
    obtain ⟨i, m, rfl, rfl, hi, hn, hm, hb⟩ := hrel.out
    clear hrel
    have HN := Lib.hid hn
    have HM := Lib.hid hm
    have HB := Lib.hid hb
    clear hn hm hb
    by_cases hlt : i < l.length
    · obtain ⟨x, hx⟩ : ∃ x, l[i]? = some x := ⟨l[i]'hlt, List.getElem?_eq_getElem hlt⟩
      obtain ⟨b, off, rfl, c0, c1⟩ := rul_at (H.out.keep HB.out) hx
      have hxo := (HOK.out x (List.mem_of_getElem? hx)).keep HB.out
      have hd : l.drop i = x :: l.drop (i + 1) := by
        obtain ⟨h1, rfl⟩ := List.getElem?_eq_some_iff.1 hx
        exact List.drop_eq_getElem_cons h1
      have hm := HM.out
      rw [hd, List.map_cons, longestR] at hm
      have HO := Lib.hid (of_calls x A2 c2 ls wr hxo (H2.out.keep HB.out) hlc2 hcm2)
      have HX := Lib.hid hx
      clear hx hd hxo
      by_cases hex : x.r.except = ex
      · have hb1 : (x.r.except == ex) = true := by simpa using hex
        cases ho : ofL x.r.labels ls
        · rw [ho] at HO
          rw [if_neg (by simp [ho])] at hm
          have HM := Lib.hid hm
          have HEX := Lib.hid hex
          clear hm ho hex
          go_wp2_with (go_at_call 77; refine HO.out.mono ?_; rintro e w5 ⟨rfl, hb5⟩; have HB5 := Lib.hid (belowOn HB.out HB.out.size hb5); clear hb5)
          go_roundg (l.length - (i + 1))
          case measure => have := HN.out; omega
          case rel => exact ⟨i + 1, m, (by first | exact wrap_up _ _ _ hlt hlc hcm | simp), rfl, by omega, rfl, HM.out, HB5.out⟩
        · rw [ho] at HO
          rw [if_pos ⟨hex, ho⟩] at hm
          have HM := Lib.hid hm
          have HEX := Lib.hid hex
          clear hm ho hex
          go_wp2_with (go_at_call 77; refine HO.out.mono ?_; rintro e w5 ⟨rfl, hb5⟩; have HB5 := Lib.hid (belowOn HB.out HB.out.size hb5); obtain ⟨b5, off5, e5, c05, c15⟩ := rul_at (H.out.keep HB5.out) HX.out; cases e5; clear hb5)
          go_roundg (l.length - (i + 1))
          case measure => have := HN.out; omega
          case rel => exact ⟨i + 1, _, (by first | exact wrap_up _ _ _ hlt hlc hcm | simp), rfl, by omega, rfl, HM.out, HB5.out⟩
      · have hb1 : (x.r.except == ex) = false := by simpa using hex
        rw [if_neg (fun h => hex h.1)] at hm
        have HM := Lib.hid hm
        clear hm
        go_wp2
        go_roundg (l.length - (i + 1))
        case measure => have := HN.out; omega
        case rel => exact ⟨i + 1, m, (by first | exact wrap_up _ _ _ hlt hlc hcm | simp), rfl, by omega, rfl, HM.out, HB.out⟩
    · have hd : l.drop i = [] := List.drop_eq_nil_of_le (by omega)
      have hm := HM.out
      rw [hd, List.map_nil, longestR] at hm
      have HM := Lib.hid hm
      clear hm hd
      go_wp2
      go_ret
      exact ⟨by rw [← HM.out]; rfl, HB.out⟩

set_option maxHeartbeats 1000000 in
theorem refSuffix_calls (A : Option Addr) (c : Nat) (l : List RulV) (A2 : Option Addr) (c2 : Nat) (ls : List ByteArray) (w : World) (h : RowAt RulV.cells 2 w A l) (hok : ∀ x ∈ l, x.ok w) (h2 : RowAt strC 1 w A2 ls) (hlc : l.length ≤ c) (hcm : c ≤ maxLen) (hlc2 : ls.length ≤ c2) (hcm2 : c2 ≤ maxLen) :
    Calls Tryd.prog 46 #[.slice A l.length c, .slice A2 ls.length c2] w fun e w' => e = .returned (.int .i64 (suffixR (l.map (·.r)) ls)) ∧ Below w.heap.size w w' := by
  have L1 := Lib.hid (longest_calls A c l A2 c2 ls true w h hok h2 hlc hcm hlc2 hcm2)
  have L2 := Lib.hid (fun w' (hb : Below w.heap.size w w') => longest_calls A c l A2 c2 ls false w' (h.keep hb) (fun x hx => (hok x hx).keep hb) (h2.keep hb) hlc hcm hlc2 hcm2)
  have hle := longest_le ls true (l.map (·.r))
  clear h hok h2
  unfold suffixR pick
  generalize longestR ls true (l.map (·.r)) (-1) = x at *
  generalize longestR ls false (l.map (·.r)) (-1) = y at *
  have hw1 : IntKind.i64.wrap (x - 1) = x - 1 := by rw [IntKind.wrap_i64]; simp only [maxLen] at hcm2; omega
  by_cases hx : x ≥ 0
  · go_enter Tryd.func46, Tryd.ntmps46
    go_wp2_with (go_at_call 64; refine L1.out.mono ?_; rintro e w1 ⟨rfl, hb1⟩; have HB1 := Lib.hid hb1; clear hb1)
    go_ret
    exact ⟨rfl, HB1.out⟩
  · by_cases hy : y ≥ 0
    · go_enter Tryd.func46, Tryd.ntmps46
      go_wp2_with (first | (go_at_call_of 64 (Value.bool true); refine L1.out.mono ?_; rintro e w1 ⟨rfl, hb1⟩; have HB1 := Lib.hid hb1; clear hb1) | (go_at_call_of 64 (Value.bool false); refine (L2.out _ HB1.out).mono ?_; rintro e w2 ⟨rfl, hb2⟩; have HB2 := Lib.hid (belowOn HB1.out HB1.out.size hb2); clear hb2))
      go_ret
      exact ⟨rfl, HB2.out⟩
    · go_enter Tryd.func46, Tryd.ntmps46
      go_wp2_with (first | (go_at_call_of 64 (Value.bool true); refine L1.out.mono ?_; rintro e w1 ⟨rfl, hb1⟩; have HB1 := Lib.hid hb1; clear hb1) | (go_at_call_of 64 (Value.bool false); refine (L2.out _ HB1.out).mono ?_; rintro e w2 ⟨rfl, hb2⟩; have HB2 := Lib.hid (belowOn HB1.out HB1.out.size hb2); clear hb2))
      go_ret
      exact ⟨rfl, HB2.out⟩
end Go.Proofs.YtgljkgkmbfhgiaaDoor
