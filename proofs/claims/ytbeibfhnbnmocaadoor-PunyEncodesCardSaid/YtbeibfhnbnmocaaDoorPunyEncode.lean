/- The program's Encode. -/
import Derived.Test.YtbeibfhnbnmocaaDoorPunyDecode
import Derived.Test.YtbeibfhnbnmocaaDoorOpen
set_option linter.unusedVariables false
set_option linter.unusedSimpArgs false
set_option maxRecDepth 100000
namespace Go.Proofs.YtbeibfhnbnmocaaDoor
open Go.RowKit Go.Proofs.YtbeibfhnbnmocaaDoor.Plain Puny

/-- A code point's cell. -/
def iC (y : Int) : List Value := [.int .i32 y]
theorem at32 {w : World} {A : Option Addr} {l : List Int} (h : RowAt iC 1 w A l) {i : Nat} {y : Int} (hi : l[i]? = some y) : ∃ b off, A = some ⟨b, off, none⟩ ∧ b < w.heap.size ∧ w.cell? ⟨b, off + i, none⟩ = some (.int .i32 y) := by
  obtain ⟨b, off, e, hc⟩ := h i y hi
  have := hc 0 _ rfl
  rw [Nat.mul_one, Nat.add_zero] at this
  exact ⟨b, off, e, World.block_lt_of_cell? w _ this, this⟩
theorem RowI.toAt {e : TypeId} {w : World} {A : Option Addr} {l : List Int} (h : RowI .i32 e w A l) : RowAt iC 1 w A l := by
  intro i x hx
  obtain ⟨b, off, e1, _, hc⟩ := h.at_ hx
  refine ⟨b, off, e1, fun j u hu => ?_⟩
  have hj : j = 0 := by have := (List.getElem?_eq_some_iff.1 hu).1; simp [iC] at this; omega
  subst hj
  cases hu
  rw [Nat.mul_one]
  exact hc
/-! Plain. -/
theorem filter_eq_count (n : Nat) : ∀ l : List Nat, (l.filter (· < n + 1)).length = (l.filter (· < n)).length + (l.filter (· = n)).length
  | [] => rfl
  | c :: l => by
    have ih := filter_eq_count n l
    simp only [List.filter_cons, decide_eq_true_eq]
    by_cases h1 : c < n
    · rw [if_pos (by omega), if_pos h1, if_neg (by omega), List.length_cons, List.length_cons]
      omega
    · by_cases h2 : c = n
      · rw [if_pos (by omega), if_neg h1, if_pos h2, List.length_cons, List.length_cons]
        omega
      · rw [if_neg (by omega), if_neg h1, if_neg h2]
        exact ih
theorem scan_count (b0 n : Nat) : ∀ (Y : List Nat) (delta bias h : Nat), (scan b0 n Y delta bias h).2.2.2 = h + (Y.filter (· = n)).length
  | [], _, _, _ => rfl
  | c :: Y, delta, bias, h => by
    rw [scan]
    by_cases h1 : c < n
    · rw [if_pos h1, scan_count b0 n Y, List.filter_cons, if_neg (by simp; omega)]
    · rw [if_neg h1]
      by_cases h2 : c = n
      · rw [if_pos h2]
        dsimp only
        rw [scan_count b0 n Y, List.filter_cons, if_pos (by simp [h2]), List.length_cons]
        omega
      · rw [if_neg h2, scan_count b0 n Y, List.filter_cons, if_neg (by simp [h2])]
theorem filter_below {l : List Nat} {n m : Nat} (hn : n ≤ m) (h : ∀ c ∈ l, n ≤ c → m ≤ c) : (l.filter (· < m)).length = (l.filter (· < n)).length := by
  congr 1
  apply List.filter_congr
  intro c hc
  by_cases h1 : n ≤ c
  · have := h c hc h1
    rw [decide_eq_false (by omega), decide_eq_false (by omega)]
  · rw [decide_eq_true (by omega), decide_eq_true (by omega)]
theorem eq_pos {l : List Nat} {n : Nat} (h : n ∈ l) : 0 < (l.filter (· = n)).length :=
  List.length_pos_iff.2 (List.ne_nil_of_mem (List.mem_filter.2 ⟨h, by simp⟩))
def leastS (n : Nat) (m c : Nat) : Nat := if n ≤ c ∧ c < m then c else m
theorem least_snoc (l : List Nat) (n c : Nat) : least (l ++ [c]) n = leastS n (least l n) c := by
  unfold least leastS
  rw [List.foldl_append]
  rfl
theorem scalar_le {n : Nat} (h : scalar n = true) : n ≤ 1114111 := by
  unfold scalar at h
  simp only [Bool.or_eq_true, Bool.and_eq_true, decide_eq_true_eq] at h
  omega

def basics (l : List Nat) (p : Nat) : List UInt8 := ((l.take p).filter (· < 128)).map UInt8.ofNat
theorem basics_step {l : List Nat} {p x : Nat} (h : l[p]? = some x) : basics l (p + 1) = basics l p ++ (if x < 128 then [UInt8.ofNat x] else []) := by
  unfold basics
  rw [List.take_add_one, h, List.filter_append, List.map_append]
  congr 1
  by_cases hx : x < 128
  · simp [hx]
  · simp [hx]
theorem basics_len (l : List Nat) (p : Nat) : (basics l p).length ≤ l.length := by
  unfold basics
  rw [List.length_map]
  have h1 := List.length_filter_le (fun c : Nat => decide (c < 128)) (l.take p)
  rw [List.length_take] at h1
  omega
theorem take_least {l : List Nat} {p x : Nat} (m : Nat) (h : l[p]? = some x) : least (l.take (p + 1)) m = leastS m (least (l.take p) m) x := by
  rw [List.take_add_one, h]
  exact least_snoc _ _ _
theorem drop_at {l : List Nat} {p x : Nat} (h : l[p]? = some x) : l.drop p = x :: l.drop (p + 1) := by
  obtain ⟨h1, h2⟩ := List.getElem?_eq_some_iff.1 h
  rw [List.drop_eq_getElem_cons h1, h2]
theorem rounds_done {f b0 : Nat} {l : List Nat} {m d b h : Nat} (hh : ¬ h < l.length) : rounds f b0 l m d b h = [] := by
  cases f with
  | zero => rfl
  | succ f => rw [rounds, if_neg hh]

/-! The walks. -/
theorem odd_calls (y : Int) (w : World) : Calls Tryd.prog 13 #[.int .i32 y] w fun e w' => e = .returned (.bool (!Lib.validRune y)) ∧ w' = w := by
  go_enter Tryd.func13, Tryd.ntmps13
  go_wp2_with fail
  refine (Tryd.utf8_ValidRune y w).mono ?_
  rintro e w1 ⟨rfl, rfl⟩
  go_wp2_with fail
  go_ret
  exact ⟨rfl, rfl⟩
set_option maxHeartbeats 4000000 in
theorem index_calls {A : Option Addr} {c : Nat} {l : List Int} (w : World) (hr : RowAt iC 1 w A l) (hl : l.length ≤ 100000) (hc : l.length ≤ c) :
    Calls Tryd.prog 38 #[.slice A l.length c, .func (.func 13) #[] #[]] w fun e w' => ∃ r : Int, e = .returned (.int .i64 r) ∧ (decide (0 ≤ r) = !l.all Lib.validRune) ∧ w' = w := by
  obtain ⟨n, hn⟩ : ∃ n, n = l.length := ⟨_, rfl⟩
  have HN := Lib.hid hn
  have HR := Lib.hid hr
  rw [← hn] at hl hc ⊢
  clear hn hr
  go_enter Tryd.func38, Tryd.ntmps38
  go_wp2_with fail
  go_loopg [8] n (fun k v8 w' => Hid (∃ p : Nat, v8 = .int .i64 p ∧ k = n - p ∧ p ≤ n ∧ (∀ j y, j < p → l[j]? = some y → Lib.validRune y = true) ∧ w' = w))
  case atStart => exact ⟨0, rfl, rfl, Nat.zero_le _, fun j c hj => absurd hj (Nat.not_lt_zero _), rfl⟩
  case round =>
    obtain ⟨p, rfl, hn, hp, hall, rfl⟩ := hrel.out
    clear hrel
    have HALL := Lib.hid hall
    have HNM := Lib.hid hn
    clear hall hn
    by_cases hlt : p < n
    · obtain ⟨y, hy⟩ : ∃ y, l[p]? = some y := ⟨_, List.getElem?_eq_getElem (by rw [← HN.out]; exact hlt)⟩
      have hlt' : (p : Int) < (n : Int) := by omega
      obtain ⟨b, off, rfl, hbl, hcell⟩ := at32 HR.out hy
      have HY := Lib.hid hy
      clear hy
      cases hv : Lib.validRune y with
      | true =>
        have hod := odd_calls y wr
        rw [hv] at hod
        have HOD := Lib.hid hod
        clear hod
        go_wp2_with fail
        refine HOD.out.mono ?_
        rintro e w1 ⟨rfl, rfl⟩
        go_wp2_with fail
        go_roundg (n - (p + 1))
        case measure => have := HNM.out; omega
        case rel =>
          refine ⟨p + 1, by first | rfl | simp, rfl, by omega, fun j d hj hd => ?_, rfl⟩
          by_cases hjp : j < p
          · exact HALL.out j d hjp hd
          · have hjp' : j = p := by omega
            subst hjp'
            rw [HY.out] at hd
            simp only [Option.some.injEq] at hd
            subst hd
            exact hv
      | false =>
        have hod := odd_calls y wr
        rw [hv] at hod
        have HOD := Lib.hid hod
        clear hod
        go_wp2_with fail
        refine HOD.out.mono ?_
        rintro e w1 ⟨rfl, rfl⟩
        go_wp2_with fail
        go_ret
        refine ⟨_, rfl, ?_, rfl⟩
        rw [decide_eq_true (by omega)]
        have : l.all Lib.validRune = false := by
          rw [List.all_eq_false]
          exact ⟨y, List.mem_of_getElem? HY.out, by rw [hv]; simp⟩
        rw [this]
        rfl
    · have hlt' : ¬ (p : Int) < (n : Int) := by omega
      go_wp2_with fail
      go_ret
      refine ⟨_, rfl, ?_, rfl⟩
      have : l.all Lib.validRune = true := by
        rw [List.all_eq_true]
        intro y hy
        obtain ⟨j, hj, rfl⟩ := List.mem_iff_getElem.1 hy
        exact HALL.out j _ (by rw [← HN.out] at hj; omega) (List.getElem?_eq_getElem hj)
      rw [this]
      rfl
theorem contains_calls {A : Option Addr} {c : Nat} {l : List Int} (w : World) (hr : RowAt iC 1 w A l) (hl : l.length ≤ 100000) (hc : l.length ≤ c) :
    Calls Tryd.prog 15 #[.slice A l.length c, .func (.func 13) #[] #[]] w fun e w' => e = .returned (.bool (!l.all Lib.validRune)) ∧ w' = w := by
  have HI := Lib.hid (index_calls w hr hl hc)
  go_enter Tryd.func15, Tryd.ntmps15
  go_wp2_with fail
  refine HI.out.mono ?_
  rintro e w1 ⟨r, rfl, hr2, rfl⟩
  have HR2 := Lib.hid hr2
  clear hr2
  go_wp2_with fail
  go_ret
  exact ⟨by rw [← HR2.out]; rfl, rfl⟩
theorem cast_back {l : List Int} (h : l.all Lib.validRune = true) : l = (l.map Int.toNat).map (fun n : Nat => (n : Int)) ∧ ∀ c ∈ l.map Int.toNat, scalar c = true := by
  rw [List.all_eq_true] at h
  have h0 : ∀ y ∈ l, (y.toNat : Int) = y := fun y hy => by
    have := h y hy
    unfold Lib.validRune at this
    rw [decide_eq_true_eq] at this
    omega
  constructor
  · rw [List.map_map]
    conv => lhs; rw [← List.map_id l]
    exact List.map_congr_left fun y hy => (h0 y hy).symm
  · intro c hc
    obtain ⟨y, hy, rfl⟩ := List.mem_map.1 hc
    rw [← valid_scalar, h0 y hy]
    exact h y hy
/-- What the program's Encode tells. -/
def EncPost (l : List Int) (e : Ending) (w : World) : Prop :=
  if l.all Lib.validRune then e = .returned (.tuple #[.string ⟨(encL (l.map Int.toNat)).toArray⟩, .nilIface]) ∧ (encL (l.map Int.toNat)).length ≤ 21001 else ∃ v, e = .returned (.tuple #[.string ⟨#[]⟩, v]) ∧ Chain w [⟨#[112, 117, 110, 121]⟩] v 2
theorem encode_odd {A : Option Addr} {c : Nat} {l : List Int} (w : World) (hr : RowAt iC 1 w A l) (hl : l.length ≤ 500) (hc : l.length ≤ c) (hv : l.all Lib.validRune = false) :
    Calls Tryd.prog 6 #[.slice A l.length c] w fun e w' => ∃ v, e = .returned (.tuple #[.string ⟨#[]⟩, v]) ∧ Chain w' [⟨#[112, 117, 110, 121]⟩] v 2 ∧ Below w.heap.size w w' := by
  have hC := contains_calls w hr (by omega) hc
  rw [hv] at hC
  have HC := Lib.hid hC
  clear hC
  go_enter Tryd.func6, Tryd.ntmps6
  go_wp2_with fail
  refine HC.out.mono ?_
  rintro e w1 ⟨rfl, rfl⟩
  clear HC
  go_wp2_with fail
  refine (wrong_calls _).mono ?_
  rintro e w2 ⟨v, rfl, hc, hb⟩
  go_wp2_with fail
  go_ret2
  exact ⟨v, rfl, hc, hb⟩
set_option maxHeartbeats 8000000 in
theorem encode_even {A : Option Addr} {c : Nat} {l : List Nat} (w : World) (hr : RowAt iC 1 w A (l.map fun n : Nat => (n : Int))) (hl : l.length ≤ 500) (hc : l.length ≤ c) (hs : ∀ c ∈ l, scalar c = true) :
    Calls Tryd.prog 6 #[.slice A l.length c] w fun e w' => e = .returned (.tuple #[.string ⟨(encL l).toArray⟩, .nilIface]) ∧ (encL l).length ≤ 21001 ∧ Below w.heap.size w w' := by
  have hC := contains_calls w hr (by rw [List.length_map]; omega) (by rw [List.length_map]; exact hc)
  have hv : (l.map fun n : Nat => (n : Int)).all Lib.validRune = true := by
    rw [List.all_eq_true]
    intro y hy
    obtain ⟨n, hn, rfl⟩ := List.mem_map.1 hy
    rw [valid_scalar]
    exact hs n hn
  rw [hv, List.length_map] at hC
  have HC := Lib.hid hC
  have HR := Lib.hid hr
  have HS := Lib.hid hs
  obtain ⟨n, hn⟩ : ∃ n, n = l.length := ⟨_, rfl⟩
  have HN := Lib.hid hn
  rw [← hn] at hl hc HC ⊢
  obtain ⟨T, hT⟩ : ∃ T, T = encL l := ⟨_, rfl⟩
  have HT := Lib.hid hT
  rw [← hT]
  have HNEW := Lib.hid (bld_new w)
  have HBE0 := Lib.hid ((Below.refl w.heap.size w).alloc (Nat.le_refl _) (.cells #[.pointer none, .slice none 0 0] 46))
  clear hC hv hr hs hn hT
  go_enter Tryd.func6, Tryd.ntmps6
  go_wp2_with fail
  refine HC.out.mono ?_
  rintro e w1 ⟨rfl, e1⟩
  have e2 := e1.symm
  subst e2
  clear HC
  go_wp2_with fail
  generalize w.alloc (.cells #[.pointer none, .slice none 0 0] 46) = W0 at HNEW HBE0 ⊢
  go_loopg [29] n (fun k v29 w' => Hid (∃ p : Nat, v29 = .int .i64 p ∧ k = n - p ∧ p ≤ n ∧ Bld w.heap.size w.heap.size (basics l p) w' ∧ Below w.heap.size w w'))
  case atStart => exact ⟨0, rfl, rfl, Nat.zero_le _, HNEW.out, HBE0.out⟩
  case round =>
    obtain ⟨p, rfl, hk, hp, hbl, hbe⟩ := hrel.out
    clear hrel
    have HNM := Lib.hid hk
    have HBL := Lib.hid hbl
    have HBE := Lib.hid hbe
    clear hk hbl hbe HNEW HBE0
    by_cases hlt : p < n
    · obtain ⟨x, hx⟩ : ∃ x, l[p]? = some x := ⟨_, List.getElem?_eq_getElem (by rw [← HN.out]; exact hlt)⟩
      have hlt' : (p : Int) < (n : Int) := by omega
      obtain ⟨ba, off, rfl, hbl, hcell⟩ := at32 (RowAt.keep HR.out HBE.out) (i := p) (y := (x : Int)) (by rw [List.getElem?_map, hx]; rfl)
      have hst := basics_step hx
      have hbn := basics_len l p
      rw [← HN.out] at hbn
      have HX := Lib.hid hx
      clear hx
      by_cases hlow : x < 128
      · have hlow' : (x : Int) < 128 := by omega
        rw [if_pos hlow] at hst
        have HW := Lib.hid (bld_rune x hlow HBL.out (by omega) HBE.out.size)
        rw [← hst] at HW
        clear hst
        go_wp2_with fail
        refine HW.out.mono ?_
        rintro e w2 ⟨rfl, hb2, hb⟩
        have HBL2 := Lib.hid hb2
        have HBE2 := Lib.hid (HBE.out.trans hb)
        clear hb2 hb HW
        go_wp2_with fail
        go_roundg (n - (p + 1))
        case measure => have := HNM.out; omega
        case rel => exact ⟨p + 1, by first | rfl | simp, rfl, by omega, HBL2.out, HBE2.out⟩
      · have hlow' : ¬ (x : Int) < 128 := by omega
        rw [if_neg hlow, List.append_nil] at hst
        go_wp2_with fail
        go_roundg (n - (p + 1))
        case measure => have := HNM.out; omega
        case rel => exact ⟨p + 1, by first | rfl | simp, rfl, by omega, by rw [hst]; exact HBL.out, HBE.out⟩
    · have hlt' : ¬ (p : Int) < (n : Int) := by omega
      obtain rfl : p = n := by omega
      have hb0 : basics l p = (l.filter (· < 128)).map UInt8.ofNat := by
        unfold basics
        rw [HN.out, List.take_length]
      obtain ⟨b0, hb⟩ : ∃ b0, b0 = (l.filter (· < 128)).length := ⟨_, rfl⟩
      have hlb : (basics l p).length = b0 := by rw [hb0, List.length_map, hb]
      have hbn : b0 ≤ p := by
        rw [← hlb, HN.out]
        exact basics_len l l.length
      have hLN := bld_len HBL.out
      rw [hlb] at hLN
      have HLN := Lib.hid hLN
      have HB0 := Lib.hid hb0
      have HB := Lib.hid hb
      have HLB := Lib.hid hlb
      have hTT : T = basics l p ++ (if b0 = 0 then [] else [45]) ++ rounds (p + 1) b0 l 128 0 72 b0 := by
        rw [HT.out, hb0, hb, HN.out]
        rfl
      have HTT := Lib.hid hTT
      clear hLN hb0 hb hlb hTT HNM
      by_cases hz : b0 = 0
      · have hz' : ¬ (0 : Int) < (b0 : Int) := by omega
        rw [if_pos hz, List.append_nil] at HTT
        clear hz
        go_wp2_with fail
        refine HLN.out.mono ?_
        rintro e w1 ⟨rfl, e1⟩
        have e2 := e1.symm
        subst e2
        clear HLN
        go_wp2_with fail
        simp only [show decide (0 < b0) = false by rw [decide_eq_false_iff_not]; omega]
        obtain ⟨out0, ho0⟩ : ∃ o, o = basics l p := ⟨_, rfl⟩
        rw [← ho0] at HTT HBL
        have hol : out0.length ≤ 501 + 41 * b0 := by
          have := HLB.out
          rw [ho0]
          omega
        clear ho0
        go_loopg [9, 10, 11, 12] (p + 1) (fun f v9 v10 v11 v12 w' => Hid (∃ (m d b h : Nat) (out : List UInt8), v9 = .int .i64 m ∧ v10 = .int .i64 d ∧ v11 = .int .i64 b ∧ v12 = .int .i64 h ∧ out ++ rounds f b0 l m d b h = T ∧ h = (l.filter (· < m)).length ∧ p < f + h ∧ out.length ≤ 501 + 41 * h ∧ d ≤ m * 1000 ∧ m ≤ 1114112 ∧ b ≤ 5000000000 ∧ Bld w.heap.size w.heap.size out w' ∧ Below w.heap.size w w'))
        case atStart => exact ⟨128, 0, 72, b0, out0, rfl, rfl, rfl, rfl, HTT.out.symm, HB.out, by omega, hol, by omega, by omega, by omega, HBL.out, HBE.out⟩
        case round =>
          obtain ⟨m, d, b, h, out, rfl, rfl, rfl, rfl, ho, hh, hf, hol, hd, hm, hb, hbl, hbe⟩ := hrel.out
          clear hrel HBL HBE HTT
          have HO := Lib.hid ho
          have HBL := Lib.hid hbl
          have HBE := Lib.hid hbe
          have HH := Lib.hid hh
          have hhn : h ≤ p := by
            rw [hh, HN.out]
            exact List.length_filter_le _ _
          clear ho hbl hbe hh
          by_cases hlt : h < p
          · have hlt' : (h : Int) < (p : Int) := by omega
            obtain ⟨g, rfl⟩ : ∃ g, gk = g + 1 := ⟨gk - 1, by omega⟩
            go_wp2_with fail
            go_loopg [13, 49] p (fun k v13 v49 w' => Hid (∃ j : Nat, v49 = .int .i64 j ∧ v13 = .int .i32 ((min 1114111 (least (l.take j) m) : Nat) : Int) ∧ k = p - j ∧ j ≤ p ∧ w' = wr))
            case atStart => exact ⟨0, rfl, rfl, rfl, Nat.zero_le _, rfl⟩
            case round =>
              obtain ⟨j, rfl, rfl, hk, hj, rfl⟩ := hrel.out
              clear hrel
              have HNK := Lib.hid hk
              clear hk
              by_cases hjl : j < p
              · obtain ⟨x, hx⟩ : ∃ x, l[j]? = some x := ⟨_, List.getElem?_eq_getElem (by rw [← HN.out]; exact hjl)⟩
                have hjl' : (j : Int) < (p : Int) := by omega
                obtain ⟨ba, off, rfl, hbl, hcell⟩ := at32 (RowAt.keep HR.out HBE.out) (i := j) (y := (x : Int)) (by rw [List.getElem?_map, hx]; rfl)
                have hx1 := scalar_le (HS.out x (List.mem_of_getElem? hx))
                have hst := take_least m hx
                have HX := Lib.hid hx
                clear hx
                obtain ⟨M, hM⟩ : ∃ M, M = min 1114111 (least (l.take j) m) := ⟨_, rfl⟩
                obtain ⟨M', hM'⟩ : ∃ M, M = min 1114111 (least (l.take (j + 1)) m) := ⟨_, rfl⟩
                rw [← hM]
                have hMl : M ≤ 1114111 := by rw [hM]; exact Nat.min_le_left _ _
                have hMM : M' = if m ≤ x ∧ x < M then x else M := by
                  rw [hM', hst, hM]
                  unfold leastS
                  by_cases h1 : m ≤ x ∧ x < least (l.take j) m
                  · rw [if_pos h1]
                    split <;> omega
                  · rw [if_neg h1]
                    split <;> omega
                have HM' := Lib.hid hM'
                clear hst hM hM'
                by_cases hmx : m ≤ x
                · have hmx' : (m : Int) ≤ (x : Int) := by omega
                  have hmin : min (M : Int) (x : Int) = (M' : Int) := by
                    rw [hMM]
                    by_cases hxm : x < M
                    · rw [if_pos ⟨hmx, hxm⟩]
                      omega
                    · rw [if_neg (fun e => hxm e.2)]
                      omega
                  have HMIN := Lib.hid hmin
                  clear hMM hmin
                  go_wp2_with fail
                  rw [HMIN.out]
                  go_roundg (p - (j + 1))
                  case measure => have := HNK.out; omega
                  case rel => exact ⟨j + 1, by first | rfl | simp, by rw [← HM'.out], rfl, by omega, rfl⟩
                · have hmx' : ¬ (m : Int) ≤ (x : Int) := by omega
                  rw [if_neg (fun e => hmx e.1)] at hMM
                  subst hMM
                  go_wp2_with fail
                  go_roundg (p - (j + 1))
                  case measure => have := HNK.out; omega
                  case rel => exact ⟨j + 1, by first | rfl | simp, by rw [← HM'.out], rfl, by omega, rfl⟩
              · have hjl' : ¬ (j : Int) < (p : Int) := by omega
                obtain rfl : p = j := by omega
                obtain ⟨M, hM⟩ : ∃ M, M = min 1114111 (least (l.take p) m) := ⟨_, rfl⟩
                rw [← hM]
                rw [show l.take p = l by rw [HN.out, List.take_length]] at hM
                obtain ⟨q1, q2, q3⟩ := least_spec l m
                obtain ⟨y, hy, hym⟩ := filter_lt_or (n := m) (by rw [← HH.out, ← HN.out]; exact hlt)
                have hyM := q1 y hy hym
                have hy1 := scalar_le (HS.out y hy)
                have hMe : M = least l m := by omega
                rw [← hMe] at q1 q2
                have hMin : M ∈ l := by
                  rcases q2 with h | h
                  · omega
                  · exact h.1
                have hMm : m ≤ M := by
                  rcases q2 with h | h
                  · omega
                  · exact h.2
                have hM1 : M ≤ 1114111 := by omega
                obtain ⟨P, hP⟩ : ∃ P, P = (M - m) * (h + 1) := ⟨_, rfl⟩
                have hPl : P ≤ (M - m) * 501 := by rw [hP]; exact Nat.mul_le_mul_left _ (by omega)
                obtain ⟨D, hD⟩ : ∃ D, D = d + P := ⟨_, rfl⟩
                have hDl : D ≤ M * 1000 := by omega
                have hv10 : wrap64 ((d : Int) + wrap64 (((M : Int) - (m : Int)) * ((h : Int) + 1))) = (D : Int) := by
                  have e : ((M : Int) - (m : Int)) * ((h : Int) + 1) = (P : Int) := by
                    rw [show (M : Int) - (m : Int) = ((M - m : Nat) : Int) by omega, show (h : Int) + 1 = ((h + 1 : Nat) : Int) by omega, ← Int.natCast_mul, ← hP]
                  rw [e, wrap_in (x := (P : Int)) (by omega) (by omega), wrap_in (by omega) (by omega)]
                  omega
                have HQ := Lib.hid q1
                have HMIN := Lib.hid hMin
                have hO2 := HO.out
                rw [rounds, if_pos (by rw [← HN.out]; exact hlt), ← hMe, ← hP, ← hD] at hO2
                obtain ⟨S, hS⟩ : ∃ S, S = scan b0 M l D b h := ⟨_, rfl⟩
                rw [← hS] at hO2
                have HO2 := Lib.hid hO2
                have HSC := Lib.hid hS
                have hSn := scan_count b0 M l D b h
                rw [← hS] at hSn
                have HSN := Lib.hid hSn
                clear hO2 hS q1 q2 q3 hMe hMin hy hyM hym hy1 hM hSn HO
                have HV := Lib.hid hv10
                clear hP hPl hD hv10
                go_wp2_with fail
                rw [HV.out]
                go_loopg [10, 11, 12, 74] p (fun k v10 v11 v12 v74 w' => Hid (∃ (i d' b' h' : Nat) (out' : List UInt8), v74 = .int .i64 i ∧ v10 = .int .i64 d' ∧ v11 = .int .i64 b' ∧ v12 = .int .i64 h' ∧ k = p - i ∧ i ≤ p ∧ out' ++ (scan b0 M (l.drop i) d' b' h').1 = out ++ S.1 ∧ (scan b0 M (l.drop i) d' b' h').2 = S.2 ∧ out'.length ≤ 501 + 41 * h' ∧ d' ≤ M * 1000 + i ∧ b' ≤ 5000000000 ∧ h' ≤ h + i ∧ Bld w.heap.size w.heap.size out' w' ∧ Below w.heap.size w w'))
                case atStart => exact ⟨0, D, b, h, out, rfl, rfl, rfl, rfl, rfl, Nat.zero_le _, by rw [List.drop_zero, HSC.out], by rw [List.drop_zero, HSC.out], hol, by omega, hb, by omega, HBL.out, HBE.out⟩
                case round =>
                  obtain ⟨i, d', b', h', out', rfl, rfl, rfl, rfl, hk, hi, hs1, hs2, hol', hd', hb', hh', hbl, hbe⟩ := hrel.out
                  clear hrel HBL HBE
                  have HS1 := Lib.hid hs1
                  have HS2 := Lib.hid hs2
                  have HBL := Lib.hid hbl
                  have HBE := Lib.hid hbe
                  have HNI := Lib.hid hk
                  clear hs1 hs2 hbl hbe hk
                  by_cases hil : i < p
                  · obtain ⟨x, hx⟩ : ∃ x, l[i]? = some x := ⟨_, List.getElem?_eq_getElem (by rw [← HN.out]; exact hil)⟩
                    have hil' : (i : Int) < (p : Int) := by omega
                    obtain ⟨ba, off, rfl, hbl, hcell⟩ := at32 (RowAt.keep HR.out HBE.out) (i := i) (y := (x : Int)) (by rw [List.getElem?_map, hx]; rfl)
                    have hx1 := scalar_le (HS.out x (List.mem_of_getElem? hx))
                    have hdr := drop_at hx
                    have hs1 := HS1.out
                    have hs2 := HS2.out
                    rw [hdr, scan] at hs1 hs2
                    clear hx hdr HS1 HS2
                    by_cases hxM : x < M
                    · have hxM' : (x : Int) < (M : Int) := by omega
                      have hxe : ¬ (x : Int) = (M : Int) := by omega
                      rw [if_pos hxM] at hs1 hs2
                      have HS1 := Lib.hid hs1
                      have HS2 := Lib.hid hs2
                      clear hs1 hs2
                      go_wp2_with fail
                      go_roundg (p - (i + 1))
                      case measure => have := HNI.out; omega
                      case rel => exact ⟨i + 1, d' + 1, b', h', out', by first | rfl | simp, by first | rfl | simp, rfl, rfl, rfl, by omega, HS1.out, HS2.out, hol', by omega, hb', by omega, HBL.out, HBE.out⟩
                    · have hxM' : ¬ (x : Int) < (M : Int) := by omega
                      rw [if_neg hxM] at hs1 hs2
                      by_cases hxe : x = M
                      · have hxe' : (x : Int) = (M : Int) := by omega
                        rw [if_pos hxe] at hs1 hs2
                        dsimp only at hs1 hs2
                        rw [← List.append_assoc] at hs1
                        have hNU := number_calls d' b' (by omega) (by omega) wr
                        have hAD := adapt_calls d' (h' + 1) (h' == b0) (by omega) (by omega) (by omega)
                        have hal := adapt_le d' (h' + 1) (h' == b0)
                        rw [show ((h' + 1 : Nat) : Int) = (h' : Int) + 1 by omega, show (h' == b0) = ((h' : Int) == (b0 : Int)) by rw [Bool.eq_iff_iff]; simp; omega] at hAD
                        rw [show (h' == b0) = ((h' : Int) == (b0 : Int)) by rw [Bool.eq_iff_iff]; simp; omega] at hs1 hs2 hal
                        generalize adapt d' (h' + 1) ((h' : Int) == (b0 : Int)) = b2 at hs1 hs2 hal hAD
                        have htl := tell_len d' b' 36 (by omega)
                        obtain ⟨dg, hdg⟩ : ∃ dg, dg = (tell d' b' 36).map digit := ⟨_, rfl⟩
                        have hdl : dg.length ≤ 41 := by rw [hdg, List.length_map]; exact htl
                        rw [← hdg] at hs1 hNU
                        have HS1 := Lib.hid hs1
                        have HS2 := Lib.hid hs2
                        have HNU := Lib.hid hNU
                        have HAD := Lib.hid hAD
                        clear hs1 hs2 hNU hAD hdg htl
                        go_wp2_with fail
                        refine HNU.out.mono ?_
                        rintro e w3 ⟨rfl, hb3⟩
                        have HBL2 := Lib.hid (bld_keep HBL.out hb3)
                        have HBE2 := Lib.hid (belowOn HBE.out HBE.out.size hb3)
                        clear hb3 HBL HBE HNU
                        have HWS := Lib.hid (bld_string ⟨dg.toArray⟩ HBL2.out (by show out'.length + dg.toArray.size ≤ 100000; rw [List.size_toArray]; omega) HBE2.out.size)
                        go_wp2_with fail
                        refine HWS.out.mono ?_
                        rintro e w4 ⟨rfl, hb4, hb5⟩
                        have HBL3 := Lib.hid hb4
                        have HBE3 := Lib.hid (HBE2.out.trans hb5)
                        clear hb4 hb5 HBL2 HBE2 HWS
                        go_wp2_with fail
                        refine (HAD.out _).mono ?_
                        rintro e w5 ⟨rfl, hb6⟩
                        have HBL4 := Lib.hid (bld_keep HBL3.out hb6)
                        have HBE4 := Lib.hid (belowOn HBE3.out HBE3.out.size hb6)
                        clear hb6 HBL3 HBE3 HAD
                        go_wp2_with fail
                        go_roundg (p - (i + 1))
                        case measure => have := HNI.out; omega
                        case rel => exact ⟨i + 1, 0, b2, h' + 1, out' ++ dg, by first | rfl | simp, rfl, rfl, by first | rfl | simp, rfl, by omega, HS1.out, HS2.out, by rw [List.length_append]; omega, by omega, by omega, by omega, HBL4.out, HBE4.out⟩
                      · have hxe' : ¬ (x : Int) = (M : Int) := by omega
                        rw [if_neg hxe] at hs1 hs2
                        have HS1 := Lib.hid hs1
                        have HS2 := Lib.hid hs2
                        clear hs1 hs2
                        go_wp2_with fail
                        go_roundg (p - (i + 1))
                        case measure => have := HNI.out; omega
                        case rel => exact ⟨i + 1, d', b', h', out', by first | rfl | simp, rfl, rfl, rfl, rfl, by omega, HS1.out, HS2.out, hol', by omega, hb', by omega, HBL.out, HBE.out⟩
                  · have hil' : ¬ (i : Int) < (p : Int) := by omega
                    obtain rfl : p = i := by omega
                    have hs1 := HS1.out
                    have hs2 := HS2.out
                    rw [show l.drop p = [] by rw [HN.out, List.drop_length]] at hs1 hs2
                    rw [scan] at hs1 hs2
                    dsimp only at hs1 hs2
                    rw [List.append_nil] at hs1
                    have hO3 := HO2.out
                    have hSn := HSN.out
                    rw [← List.append_assoc, ← hs1, ← hs2] at hO3
                    rw [← hs2] at hSn
                    dsimp only at hO3 hSn
                    have hcnt : h' = (l.filter (· < M + 1)).length := by
                      rw [filter_eq_count M l, filter_below hMm HQ.out, ← HH.out]
                      exact hSn
                    have hgr := eq_pos HMIN.out
                    have HO3 := Lib.hid hO3
                    have HCN := Lib.hid hcnt
                    have HSN2 := Lib.hid hSn
                    clear hs1 hs2 hO3 hSn hcnt
                    go_wp2_with fail
                    go_roundg g
                    case measure => omega
                    case rel =>
                      have := HSN2.out
                      exact ⟨M + 1, d' + 1, b', h', out', by first | rfl | simp, by first | rfl | simp, rfl, rfl, HO3.out, HCN.out, by omega, hol', by omega, by omega, hb', HBL.out, HBE.out⟩
          · have hlt' : ¬ (h : Int) < (p : Int) := by omega
            have hT2 : out = T := by
              have := HO.out
              rw [rounds_done (by rw [← HN.out]; exact hlt), List.append_nil] at this
              exact this
            have HD := Lib.hid (bld_done HBL.out HBE.out.size)
            rw [hT2] at HD hol
            have HTL := Lib.hid (show T.length ≤ 21001 by omega)
            clear hol
            go_wp2_with fail
            refine HD.out.mono ?_
            rintro e w2 ⟨rfl, hb2⟩
            have HBE2 := Lib.hid (HBE.out.trans hb2)
            clear hb2
            go_wp2_with fail
            go_ret2
            exact ⟨rfl, HTL.out, HBE2.out⟩
      · have hz' : (0 : Int) < (b0 : Int) := by omega
        rw [if_neg hz] at HTT
        go_wp2_with fail
        refine HLN.out.mono ?_
        rintro e w1 ⟨rfl, e1⟩
        have e2 := e1.symm
        subst e2
        clear HLN
        go_wp2_with fail
        refine (bld_byte 45 HBL.out (by rw [HLB.out]; omega) HBE.out.size).mono ?_
        rintro e w2 ⟨rfl, hb2, hb3⟩
        have HBE1 := HBE
        clear HBE
        have HBE := Lib.hid (HBE1.out.trans hb3)
        have HBL1 := HBL
        clear HBL
        have HBL := Lib.hid hb2
        clear hb2 hb3 HBE1 HBL1
        go_wp2_with fail
        obtain ⟨out0, ho0⟩ : ∃ o, o = basics l p ++ [45] := ⟨_, rfl⟩
        rw [← ho0] at HTT HBL
        have hol : out0.length ≤ 501 + 41 * b0 := by
          rw [ho0, List.length_append, HLB.out]
          show b0 + 1 ≤ _
          omega
        clear ho0
        go_loopg [9, 10, 11, 12] (p + 1) (fun f v9 v10 v11 v12 w' => Hid (∃ (m d b h : Nat) (out : List UInt8), v9 = .int .i64 m ∧ v10 = .int .i64 d ∧ v11 = .int .i64 b ∧ v12 = .int .i64 h ∧ out ++ rounds f b0 l m d b h = T ∧ h = (l.filter (· < m)).length ∧ p < f + h ∧ out.length ≤ 501 + 41 * h ∧ d ≤ m * 1000 ∧ m ≤ 1114112 ∧ b ≤ 5000000000 ∧ Bld w.heap.size w.heap.size out w' ∧ Below w.heap.size w w'))
        case atStart => exact ⟨128, 0, 72, b0, out0, rfl, rfl, rfl, rfl, HTT.out.symm, HB.out, by omega, hol, by omega, by omega, by omega, HBL.out, HBE.out⟩
        case round =>
          obtain ⟨m, d, b, h, out, rfl, rfl, rfl, rfl, ho, hh, hf, hol, hd, hm, hb, hbl, hbe⟩ := hrel.out
          clear hrel HBL HBE HTT
          have HO := Lib.hid ho
          have HBL := Lib.hid hbl
          have HBE := Lib.hid hbe
          have HH := Lib.hid hh
          have hhn : h ≤ p := by
            rw [hh, HN.out]
            exact List.length_filter_le _ _
          clear ho hbl hbe hh
          by_cases hlt : h < p
          · have hlt' : (h : Int) < (p : Int) := by omega
            obtain ⟨g, rfl⟩ : ∃ g, gk = g + 1 := ⟨gk - 1, by omega⟩
            go_wp2_with fail
            go_loopg [13, 49] p (fun k v13 v49 w' => Hid (∃ j : Nat, v49 = .int .i64 j ∧ v13 = .int .i32 ((min 1114111 (least (l.take j) m) : Nat) : Int) ∧ k = p - j ∧ j ≤ p ∧ w' = wr))
            case atStart => exact ⟨0, rfl, rfl, rfl, Nat.zero_le _, rfl⟩
            case round =>
              obtain ⟨j, rfl, rfl, hk, hj, rfl⟩ := hrel.out
              clear hrel
              have HNK := Lib.hid hk
              clear hk
              by_cases hjl : j < p
              · obtain ⟨x, hx⟩ : ∃ x, l[j]? = some x := ⟨_, List.getElem?_eq_getElem (by rw [← HN.out]; exact hjl)⟩
                have hjl' : (j : Int) < (p : Int) := by omega
                obtain ⟨ba, off, rfl, hbl, hcell⟩ := at32 (RowAt.keep HR.out HBE.out) (i := j) (y := (x : Int)) (by rw [List.getElem?_map, hx]; rfl)
                have hx1 := scalar_le (HS.out x (List.mem_of_getElem? hx))
                have hst := take_least m hx
                have HX := Lib.hid hx
                clear hx
                obtain ⟨M, hM⟩ : ∃ M, M = min 1114111 (least (l.take j) m) := ⟨_, rfl⟩
                obtain ⟨M', hM'⟩ : ∃ M, M = min 1114111 (least (l.take (j + 1)) m) := ⟨_, rfl⟩
                rw [← hM]
                have hMl : M ≤ 1114111 := by rw [hM]; exact Nat.min_le_left _ _
                have hMM : M' = if m ≤ x ∧ x < M then x else M := by
                  rw [hM', hst, hM]
                  unfold leastS
                  by_cases h1 : m ≤ x ∧ x < least (l.take j) m
                  · rw [if_pos h1]
                    split <;> omega
                  · rw [if_neg h1]
                    split <;> omega
                have HM' := Lib.hid hM'
                clear hst hM hM'
                by_cases hmx : m ≤ x
                · have hmx' : (m : Int) ≤ (x : Int) := by omega
                  have hmin : min (M : Int) (x : Int) = (M' : Int) := by
                    rw [hMM]
                    by_cases hxm : x < M
                    · rw [if_pos ⟨hmx, hxm⟩]
                      omega
                    · rw [if_neg (fun e => hxm e.2)]
                      omega
                  have HMIN := Lib.hid hmin
                  clear hMM hmin
                  go_wp2_with fail
                  rw [HMIN.out]
                  go_roundg (p - (j + 1))
                  case measure => have := HNK.out; omega
                  case rel => exact ⟨j + 1, by first | rfl | simp, by rw [← HM'.out], rfl, by omega, rfl⟩
                · have hmx' : ¬ (m : Int) ≤ (x : Int) := by omega
                  rw [if_neg (fun e => hmx e.1)] at hMM
                  subst hMM
                  go_wp2_with fail
                  go_roundg (p - (j + 1))
                  case measure => have := HNK.out; omega
                  case rel => exact ⟨j + 1, by first | rfl | simp, by rw [← HM'.out], rfl, by omega, rfl⟩
              · have hjl' : ¬ (j : Int) < (p : Int) := by omega
                obtain rfl : p = j := by omega
                obtain ⟨M, hM⟩ : ∃ M, M = min 1114111 (least (l.take p) m) := ⟨_, rfl⟩
                rw [← hM]
                rw [show l.take p = l by rw [HN.out, List.take_length]] at hM
                obtain ⟨q1, q2, q3⟩ := least_spec l m
                obtain ⟨y, hy, hym⟩ := filter_lt_or (n := m) (by rw [← HH.out, ← HN.out]; exact hlt)
                have hyM := q1 y hy hym
                have hy1 := scalar_le (HS.out y hy)
                have hMe : M = least l m := by omega
                rw [← hMe] at q1 q2
                have hMin : M ∈ l := by
                  rcases q2 with h | h
                  · omega
                  · exact h.1
                have hMm : m ≤ M := by
                  rcases q2 with h | h
                  · omega
                  · exact h.2
                have hM1 : M ≤ 1114111 := by omega
                obtain ⟨P, hP⟩ : ∃ P, P = (M - m) * (h + 1) := ⟨_, rfl⟩
                have hPl : P ≤ (M - m) * 501 := by rw [hP]; exact Nat.mul_le_mul_left _ (by omega)
                obtain ⟨D, hD⟩ : ∃ D, D = d + P := ⟨_, rfl⟩
                have hDl : D ≤ M * 1000 := by omega
                have hv10 : wrap64 ((d : Int) + wrap64 (((M : Int) - (m : Int)) * ((h : Int) + 1))) = (D : Int) := by
                  have e : ((M : Int) - (m : Int)) * ((h : Int) + 1) = (P : Int) := by
                    rw [show (M : Int) - (m : Int) = ((M - m : Nat) : Int) by omega, show (h : Int) + 1 = ((h + 1 : Nat) : Int) by omega, ← Int.natCast_mul, ← hP]
                  rw [e, wrap_in (x := (P : Int)) (by omega) (by omega), wrap_in (by omega) (by omega)]
                  omega
                have HQ := Lib.hid q1
                have HMIN := Lib.hid hMin
                have hO2 := HO.out
                rw [rounds, if_pos (by rw [← HN.out]; exact hlt), ← hMe, ← hP, ← hD] at hO2
                obtain ⟨S, hS⟩ : ∃ S, S = scan b0 M l D b h := ⟨_, rfl⟩
                rw [← hS] at hO2
                have HO2 := Lib.hid hO2
                have HSC := Lib.hid hS
                have hSn := scan_count b0 M l D b h
                rw [← hS] at hSn
                have HSN := Lib.hid hSn
                clear hO2 hS q1 q2 q3 hMe hMin hy hyM hym hy1 hM hSn HO
                have HV := Lib.hid hv10
                clear hP hPl hD hv10
                go_wp2_with fail
                rw [HV.out]
                go_loopg [10, 11, 12, 74] p (fun k v10 v11 v12 v74 w' => Hid (∃ (i d' b' h' : Nat) (out' : List UInt8), v74 = .int .i64 i ∧ v10 = .int .i64 d' ∧ v11 = .int .i64 b' ∧ v12 = .int .i64 h' ∧ k = p - i ∧ i ≤ p ∧ out' ++ (scan b0 M (l.drop i) d' b' h').1 = out ++ S.1 ∧ (scan b0 M (l.drop i) d' b' h').2 = S.2 ∧ out'.length ≤ 501 + 41 * h' ∧ d' ≤ M * 1000 + i ∧ b' ≤ 5000000000 ∧ h' ≤ h + i ∧ Bld w.heap.size w.heap.size out' w' ∧ Below w.heap.size w w'))
                case atStart => exact ⟨0, D, b, h, out, rfl, rfl, rfl, rfl, rfl, Nat.zero_le _, by rw [List.drop_zero, HSC.out], by rw [List.drop_zero, HSC.out], hol, by omega, hb, by omega, HBL.out, HBE.out⟩
                case round =>
                  obtain ⟨i, d', b', h', out', rfl, rfl, rfl, rfl, hk, hi, hs1, hs2, hol', hd', hb', hh', hbl, hbe⟩ := hrel.out
                  clear hrel HBL HBE
                  have HS1 := Lib.hid hs1
                  have HS2 := Lib.hid hs2
                  have HBL := Lib.hid hbl
                  have HBE := Lib.hid hbe
                  have HNI := Lib.hid hk
                  clear hs1 hs2 hbl hbe hk
                  by_cases hil : i < p
                  · obtain ⟨x, hx⟩ : ∃ x, l[i]? = some x := ⟨_, List.getElem?_eq_getElem (by rw [← HN.out]; exact hil)⟩
                    have hil' : (i : Int) < (p : Int) := by omega
                    obtain ⟨ba, off, rfl, hbl, hcell⟩ := at32 (RowAt.keep HR.out HBE.out) (i := i) (y := (x : Int)) (by rw [List.getElem?_map, hx]; rfl)
                    have hx1 := scalar_le (HS.out x (List.mem_of_getElem? hx))
                    have hdr := drop_at hx
                    have hs1 := HS1.out
                    have hs2 := HS2.out
                    rw [hdr, scan] at hs1 hs2
                    clear hx hdr HS1 HS2
                    by_cases hxM : x < M
                    · have hxM' : (x : Int) < (M : Int) := by omega
                      have hxe : ¬ (x : Int) = (M : Int) := by omega
                      rw [if_pos hxM] at hs1 hs2
                      have HS1 := Lib.hid hs1
                      have HS2 := Lib.hid hs2
                      clear hs1 hs2
                      go_wp2_with fail
                      go_roundg (p - (i + 1))
                      case measure => have := HNI.out; omega
                      case rel => exact ⟨i + 1, d' + 1, b', h', out', by first | rfl | simp, by first | rfl | simp, rfl, rfl, rfl, by omega, HS1.out, HS2.out, hol', by omega, hb', by omega, HBL.out, HBE.out⟩
                    · have hxM' : ¬ (x : Int) < (M : Int) := by omega
                      rw [if_neg hxM] at hs1 hs2
                      by_cases hxe : x = M
                      · have hxe' : (x : Int) = (M : Int) := by omega
                        rw [if_pos hxe] at hs1 hs2
                        dsimp only at hs1 hs2
                        rw [← List.append_assoc] at hs1
                        have hNU := number_calls d' b' (by omega) (by omega) wr
                        have hAD := adapt_calls d' (h' + 1) (h' == b0) (by omega) (by omega) (by omega)
                        have hal := adapt_le d' (h' + 1) (h' == b0)
                        rw [show ((h' + 1 : Nat) : Int) = (h' : Int) + 1 by omega, show (h' == b0) = ((h' : Int) == (b0 : Int)) by rw [Bool.eq_iff_iff]; simp; omega] at hAD
                        rw [show (h' == b0) = ((h' : Int) == (b0 : Int)) by rw [Bool.eq_iff_iff]; simp; omega] at hs1 hs2 hal
                        generalize adapt d' (h' + 1) ((h' : Int) == (b0 : Int)) = b2 at hs1 hs2 hal hAD
                        have htl := tell_len d' b' 36 (by omega)
                        obtain ⟨dg, hdg⟩ : ∃ dg, dg = (tell d' b' 36).map digit := ⟨_, rfl⟩
                        have hdl : dg.length ≤ 41 := by rw [hdg, List.length_map]; exact htl
                        rw [← hdg] at hs1 hNU
                        have HS1 := Lib.hid hs1
                        have HS2 := Lib.hid hs2
                        have HNU := Lib.hid hNU
                        have HAD := Lib.hid hAD
                        clear hs1 hs2 hNU hAD hdg htl
                        go_wp2_with fail
                        refine HNU.out.mono ?_
                        rintro e w3 ⟨rfl, hb3⟩
                        have HBL2 := Lib.hid (bld_keep HBL.out hb3)
                        have HBE2 := Lib.hid (belowOn HBE.out HBE.out.size hb3)
                        clear hb3 HBL HBE HNU
                        have HWS := Lib.hid (bld_string ⟨dg.toArray⟩ HBL2.out (by show out'.length + dg.toArray.size ≤ 100000; rw [List.size_toArray]; omega) HBE2.out.size)
                        go_wp2_with fail
                        refine HWS.out.mono ?_
                        rintro e w4 ⟨rfl, hb4, hb5⟩
                        have HBL3 := Lib.hid hb4
                        have HBE3 := Lib.hid (HBE2.out.trans hb5)
                        clear hb4 hb5 HBL2 HBE2 HWS
                        go_wp2_with fail
                        refine (HAD.out _).mono ?_
                        rintro e w5 ⟨rfl, hb6⟩
                        have HBL4 := Lib.hid (bld_keep HBL3.out hb6)
                        have HBE4 := Lib.hid (belowOn HBE3.out HBE3.out.size hb6)
                        clear hb6 HBL3 HBE3 HAD
                        go_wp2_with fail
                        go_roundg (p - (i + 1))
                        case measure => have := HNI.out; omega
                        case rel => exact ⟨i + 1, 0, b2, h' + 1, out' ++ dg, by first | rfl | simp, rfl, rfl, by first | rfl | simp, rfl, by omega, HS1.out, HS2.out, by rw [List.length_append]; omega, by omega, by omega, by omega, HBL4.out, HBE4.out⟩
                      · have hxe' : ¬ (x : Int) = (M : Int) := by omega
                        rw [if_neg hxe] at hs1 hs2
                        have HS1 := Lib.hid hs1
                        have HS2 := Lib.hid hs2
                        clear hs1 hs2
                        go_wp2_with fail
                        go_roundg (p - (i + 1))
                        case measure => have := HNI.out; omega
                        case rel => exact ⟨i + 1, d', b', h', out', by first | rfl | simp, rfl, rfl, rfl, rfl, by omega, HS1.out, HS2.out, hol', by omega, hb', by omega, HBL.out, HBE.out⟩
                  · have hil' : ¬ (i : Int) < (p : Int) := by omega
                    obtain rfl : p = i := by omega
                    have hs1 := HS1.out
                    have hs2 := HS2.out
                    rw [show l.drop p = [] by rw [HN.out, List.drop_length]] at hs1 hs2
                    rw [scan] at hs1 hs2
                    dsimp only at hs1 hs2
                    rw [List.append_nil] at hs1
                    have hO3 := HO2.out
                    have hSn := HSN.out
                    rw [← List.append_assoc, ← hs1, ← hs2] at hO3
                    rw [← hs2] at hSn
                    dsimp only at hO3 hSn
                    have hcnt : h' = (l.filter (· < M + 1)).length := by
                      rw [filter_eq_count M l, filter_below hMm HQ.out, ← HH.out]
                      exact hSn
                    have hgr := eq_pos HMIN.out
                    have HO3 := Lib.hid hO3
                    have HCN := Lib.hid hcnt
                    have HSN2 := Lib.hid hSn
                    clear hs1 hs2 hO3 hSn hcnt
                    go_wp2_with fail
                    go_roundg g
                    case measure => omega
                    case rel =>
                      have := HSN2.out
                      exact ⟨M + 1, d' + 1, b', h', out', by first | rfl | simp, by first | rfl | simp, rfl, rfl, HO3.out, HCN.out, by omega, hol', by omega, by omega, hb', HBL.out, HBE.out⟩
          · have hlt' : ¬ (h : Int) < (p : Int) := by omega
            have hT2 : out = T := by
              have := HO.out
              rw [rounds_done (by rw [← HN.out]; exact hlt), List.append_nil] at this
              exact this
            have HD := Lib.hid (bld_done HBL.out HBE.out.size)
            rw [hT2] at HD hol
            have HTL := Lib.hid (show T.length ≤ 21001 by omega)
            clear hol
            go_wp2_with fail
            refine HD.out.mono ?_
            rintro e w2 ⟨rfl, hb2⟩
            have HBE2 := Lib.hid (HBE.out.trans hb2)
            clear hb2
            go_wp2_with fail
            go_ret2
            exact ⟨rfl, HTL.out, HBE2.out⟩
theorem encode_calls {A : Option Addr} {c : Nat} {l : List Int} (w : World) (hr : RowAt iC 1 w A l) (hl : l.length ≤ 500) (hc : l.length ≤ c) :
    Calls Tryd.prog 6 #[.slice A l.length c] w fun e w' => EncPost l e w' ∧ Below w.heap.size w w' := by
  cases hv : l.all Lib.validRune with
  | false =>
    refine (encode_odd w hr hl hc hv).mono ?_
    rintro e w' ⟨v, rfl, hch, hb⟩
    refine ⟨?_, hb⟩
    unfold EncPost
    rw [hv, if_neg (by decide)]
    exact ⟨v, rfl, hch⟩
  | true =>
    obtain ⟨hcb, hs⟩ := cast_back hv
    obtain ⟨N, hN⟩ : ∃ N, N = l.map Int.toNat := ⟨_, rfl⟩
    have hlen : N.length = l.length := by rw [hN, List.length_map]
    rw [← hN] at hcb hs
    rw [hcb] at hr
    have h := encode_even (A := A) (c := c) (l := N) w hr (by omega) (by omega) hs
    rw [hlen] at h
    refine h.mono ?_
    rintro e w' ⟨rfl, hle, hb⟩
    refine ⟨?_, hb⟩
    unfold EncPost
    rw [hv, if_pos rfl, ← hN]
    exact ⟨rfl, hle⟩
end Go.Proofs.YtbeibfhnbnmocaaDoor
