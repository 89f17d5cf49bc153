/- key.Back: what any text is the key of. -/
import Derived.Test.YtkeegffhfmhgfaaDoorKeyHand
import Derived.Deep.QuietTactic
import Derived.BigQuiet
set_option linter.unusedVariables false
set_option linter.unusedSimpArgs false
namespace Go.Proofs.YtkeegffhfmhgfaaDoor
open Go.RowKit Go.Proofs.YtkeegffhfmhgfaaDoorW.PrintWords Go.Proofs.YtkeegffhfmhgfaaDoor.Plain Go.Proofs.YtkeegffhfmhgfaaDoor.PKey

/-! ### Numerals, told back -/
def nbind (r : Lib.NumEnd Nat) (f : Nat → Lib.NumEnd Nat) : Lib.NumEnd Nat := match r with | .ok v => f v | e => e
theorem parse_append : ∀ (l m : List UInt8) (a : Nat), Lib.parseUint10 a (l ++ m) = nbind (Lib.parseUint10 a l) fun b => Lib.parseUint10 b m
  | [], m, a => rfl
  | c :: l, m, a => by
    simp only [List.cons_append, Lib.parseUint10]
    split
    · split
      · rfl
      · split
        · rfl
        · exact parse_append l m _
    · rfl
theorem digit_of {d : Nat} (h : d < 10) : (UInt8.ofNat (48 + d)).toNat = 48 + d := UInt8.toNat_ofNat_of_lt' (by show _ < 256; omega)
theorem parse_one (b d : Nat) (hd : d < 10) (h : b < 100000000000000000) : Lib.parseUint10 b [UInt8.ofNat (48 + d)] = .ok (b * 10 + d) := by
  simp only [Lib.parseUint10, digit_of hd]
  rw [if_pos (by omega), if_neg (by omega), if_neg (by omega)]
  congr 1
  omega
theorem parse_dec (n : Nat) (h : n < 1000000000000000000) : Lib.parseUint10 0 (Lib.decDigits n) = .ok n := by
  induction n using Nat.strongRecOn with
  | _ n ih =>
    unfold Lib.decDigits
    split
    · rename_i h1
      rw [parse_one 0 n h1 (by omega)]
      congr 1
      omega
    · rename_i h1
      rw [parse_append, ih (n / 10) (by omega) (by omega)]
      show Lib.parseUint10 (n / 10) _ = _
      rw [parse_one _ _ (by omega) (by omega)]
      congr 1
      omega
theorem dec_inj {n m : Nat} (hn : n < 1000000000000000000) (hm : m < 1000000000000000000) (h : Lib.decDigits n = Lib.decDigits m) : n = m := by
  have h1 := parse_dec n hn
  have h2 := parse_dec m hm
  rw [h, h2] at h1
  injection h1 with h1
  exact h1.symm
theorem dec_head (n : Nat) : ∃ c l, Lib.decDigits n = c :: l ∧ 48 ≤ c.toNat ∧ c.toNat ≤ 57 := by
  induction n using Nat.strongRecOn with
  | _ n ih =>
    unfold Lib.decDigits
    split
    · rename_i h1
      exact ⟨_, [], rfl, by rw [digit_of h1]; omega, by rw [digit_of h1]; omega⟩
    · rename_i h1
      obtain ⟨c, l, e, h⟩ := ih (n / 10) (by omega)
      exact ⟨c, l ++ [UInt8.ofNat (48 + n % 10)], by rw [e]; rfl, h⟩
theorem dec_digits (n : Nat) : ∀ c ∈ Lib.decDigits n, 48 ≤ c.toNat ∧ c.toNat ≤ 57 := by
  induction n using Nat.strongRecOn with
  | _ n ih =>
    unfold Lib.decDigits
    split
    · rename_i h1
      intro c hc
      simp only [List.mem_singleton] at hc
      subst hc
      rw [digit_of h1]; omega
    · rename_i h1
      intro c hc
      rcases List.mem_append.1 hc with hc | hc
      · exact ih (n / 10) (by omega) c hc
      · simp only [List.mem_singleton] at hc
        subst hc
        rw [digit_of (by omega)]; omega
theorem atoi_dec (n : Nat) (h : n < 1000000000000000000) : Lib.atoiAll (Lib.decDigits n) = .ok n := by
  obtain ⟨c, l, e, h1, h2⟩ := dec_head n
  have hp : Lib.parseMag (Lib.decDigits n) = .ok n := by
    unfold Lib.parseMag
    rw [if_neg (by rw [e]; simp), parse_dec n h]
  have h43 : ¬ (c.toNat = 43 ∨ c.toNat = 45) := by omega
  have h45 : ¬ c.toNat = 45 := by omega
  have h433 : ¬ c.toNat = 43 := by omega
  rw [e] at hp ⊢
  simp only [Lib.atoiAll, h433, h45, or_self, if_false]
  rw [hp]
  simp only []
  rw [if_neg (by omega), if_neg (by simp)]
theorem atoi_range {l : List UInt8} {n : Int} (h : Lib.atoiAll l = .ok n) : -9223372036854775808 ≤ n ∧ n ≤ 9223372036854775807 := by
  unfold Lib.atoiAll at h
  split at h
  · cases h
  · simp only at h
    split at h
    · cases h
    · cases h
    · split at h
      · cases h
      · split at h
        · cases h
        · injection h with h
          subst h
          split <;> omega

/-! ### What a text is the key of -/
def none4 : ByteArray × Bool × ByteArray × Bool := (⟨#[]⟩, false, ⟨#[]⟩, false)
/-- Behind the colon at place i: the number ahead of it, if it is one of the bytes behind it. -/
def lenOf (s : ByteArray) (i : Nat) : Option Nat := (List.range (s.size - i)).find? fun n => Lib.decDigits n == s.data.toList.take i
def backR (s : ByteArray) : ByteArray × Bool × ByteArray × Bool :=
  if s.data.toList.head? = some 45 then (⟨#[]⟩, false, s.extract 1 s.size, true)
  else if Lib.indexByte s.data.toList 58 < 0 then none4
  else match lenOf s (Lib.indexByte s.data.toList 58).toNat with
    | none => none4
    | some n => (s.extract ((Lib.indexByte s.data.toList 58).toNat + 1) ((Lib.indexByte s.data.toList 58).toNat + 1 + n), true, s.extract ((Lib.indexByte s.data.toList 58).toNat + 1 + n) s.size, true)
theorem lenOf_some {s : ByteArray} {i n : Nat} (hs : s.size ≤ 140737488351232) : lenOf s i = some n ↔ n < s.size - i ∧ Lib.decDigits n = s.data.toList.take i := by
  unfold lenOf
  constructor
  · intro h
    have h1 := List.find?_some h
    have h2 := List.mem_of_find?_eq_some h
    exact ⟨List.mem_range.1 h2, by simpa using h1⟩
  · rintro ⟨h1, h2⟩
    cases hf : (List.range (s.size - i)).find? fun n => Lib.decDigits n == s.data.toList.take i with
    | none =>
      have := List.find?_eq_none.1 hf n (List.mem_range.2 h1)
      exact absurd (by simpa using h2) this
    | some m =>
      have h3 := List.find?_some hf
      have h4 := List.mem_range.1 (List.mem_of_find?_eq_some hf)
      rw [dec_inj (by omega) (by omega) (h2.trans (by simpa using h3 : Lib.decDigits m = _).symm)]

theorem itoa_any (n : Int) (w : World) (hk : KW w) (h0 : -9223372036854775808 ≤ n) (h1 : n ≤ 9223372036854775807) :
    Calls Tryd.prog 17 #[.int .i64 n] w fun e w' => e = .returned (.string ⟨(Lib.itoa n).toArray⟩) ∧ Below w.heap.size w w' := by
  refine (Tryd.strconv_Itoa n h0 h1 w hk.tab).mono ?_
  rintro e w' ⟨rfl, k, os, rfl⟩
  exact ⟨rfl, below_grow _ k os⟩
theorem extract_list (s : ByteArray) (a b : Nat) : (s.extract a b).data.toList = (s.data.toList.take b).drop a := by
  obtain ⟨⟨l⟩⟩ := s
  rw [show (ByteArray.mk { toList := l }) = ByteArray.mk l.toArray from rfl, ByteArray.extract_mk l a b]
  simp [List.drop_take]
theorem extract_size (s : ByteArray) (a b : Nat) : (s.extract a b).size = min b s.size - a := by
  rw [← len_data, extract_list, List.length_drop, List.length_take, len_data]
def BackPost (r : ByteArray × Bool × ByteArray × Bool) (w : World) (e : Ending) (w' : World) : Prop := e = .returned (.tuple #[.string r.1, .bool r.2.1, .string r.2.2.1, .bool r.2.2.2]) ∧ Below w.heap.size w w'

/-- A text that begins with a hyphen. -/
theorem back_bare (s : ByteArray) (w : World) (h : s.data.toList.head? = some 45) :
    Calls Tryd.prog 15 #[.string s] w (BackPost (backR s) w) := by
  have hr : backR s = (⟨#[]⟩, false, s.extract 1 s.size, true) := by unfold backR; rw [if_pos h]
  have hp : Lib.hasPrefix s.data.toList [45] = true := by
    cases hl : s.data.toList with
    | nil => rw [hl] at h; cases h
    | cons c l => rw [hl] at h; obtain rfl : c = 45 := by simpa using h
                  rfl
  have ht : (⟨(Lib.trimPrefix s.data.toList [45]).toArray⟩ : ByteArray) = s.extract 1 s.size := data_inj (by
    rw [drop_data]
    unfold Lib.trimPrefix
    rw [if_pos hp]
    rfl)
  have HP := Lib.hid hp
  have HT := Lib.hid ht
  rw [hr]
  clear hp ht h hr
  go_enter Tryd.func15, Tryd.ntmps15
  go_wp2_with fail
  refine (Tryd.strings_CutPrefix _ _ _).mono ?_
  rintro e w1 ⟨rfl, rfl⟩
  rw [HP.out, HT.out]
  go_wp2_with fail
  refine bodyPost_ret (v := .tuple #[.string ⟨#[]⟩, .bool false, .string (s.extract 1 s.size), .bool true]) (by simp [results, Tryd.results15, go_sem]) rfl ⟨rfl, Below.refl _ _⟩
theorem no_prefix {s : ByteArray} (h : s.data.toList.head? ≠ some 45) : Lib.hasPrefix s.data.toList [45] = false := by
  cases hl : s.data.toList with
  | nil => rfl
  | cons c l =>
    rw [hl] at h
    have hc : ¬ c = 45 := fun e => h (by rw [e]; rfl)
    have : ([45] : List UInt8).isPrefixOf (c :: l) = false := by simp [List.isPrefixOf, Ne.symm hc]
    exact this

/-- A text without a colon. -/
theorem back_nocolon (s : ByteArray) (w : World) (hk : KW w) (hs : s.size ≤ 140737488351232) (h : s.data.toList.head? ≠ some 45) (hn : ∀ d ∈ s.data.toList, d ≠ 58) :
    Calls Tryd.prog 15 #[.string s] w (BackPost (backR s) w) := by
  have hr : backR s = none4 := by unfold backR; rw [if_neg h, indexByte_none hn, if_pos (by omega)]
  have HP := Lib.hid (no_prefix h)
  have HC := Lib.hid (cut_none s 58 hn)
  have HK := Lib.hid hk
  rw [hr]
  clear hr hn h hk
  go_enter Tryd.func15, Tryd.ntmps15
  go_wp2_with fail
  refine (Tryd.strings_CutPrefix _ _ _).mono ?_
  rintro e w1 ⟨rfl, rfl⟩
  rw [HP.out]
  go_wp2_with fail
  refine (strings_Cut.calls _ _ _ _ _ _ HC.out).mono ?_
  rintro e w2 ⟨rfl, hb2⟩
  have HK2 := Lib.hid (HK.out.keep hb2.below)
  have H2 := Lib.hid hb2.below
  clear hb2
  go_wp2_with fail
  refine (atoi_calls s _ HK2.out hs).mono ?_
  rintro e w3 ⟨he, hb3⟩
  have H3 := Lib.hid (below_step H2.out hb3)
  clear hb3
  rcases he with ⟨n, hn, rfl⟩ | ⟨hn, m, t, x, rfl⟩
  all_goals
    clear hn
    go_wp2_with fail
    refine bodyPost_ret (v := .tuple #[.string ⟨#[]⟩, .bool false, .string ⟨#[]⟩, .bool false]) (by simp [results, Tryd.results15, go_sem]) rfl ⟨rfl, H3.out⟩

theorem index_first {s : ByteArray} {i : Nat} (h : s.data.toList[i]? = some 58) (hn : ∀ (j : Nat) (d : UInt8), j < i → s.data.toList[j]? = some d → d ≠ 58) : Lib.indexByte s.data.toList 58 = i := indexByte_at h hn

/-- A key: a number, a colon, and so many bytes at least. -/
theorem back_key (s : ByteArray) (i n : Nat) (w : World) (hk : KW w) (hs : s.size ≤ 140737488351232) (h : s.data.toList.head? ≠ some 45) (h58 : s.data.toList[i]? = some 58) (hn : ∀ (j : Nat) (d : UInt8), j < i → s.data.toList[j]? = some d → d ≠ 58) (hl : lenOf s i = some n) :
    Calls Tryd.prog 15 #[.string s] w (BackPost (backR s) w) := by
  have hi : i < s.size := by have := (List.getElem?_eq_some_iff.1 h58).1; simpa using this
  have hr : backR s = (s.extract (i + 1) (i + 1 + n), true, s.extract (i + 1 + n) s.size, true) := by
    unfold backR
    rw [if_neg h, index_first h58 hn, if_neg (by omega), Int.toNat_natCast, hl]
  obtain ⟨h1, h2⟩ := (lenOf_some hs).1 hl
  have hrs : (s.extract (i + 1) s.size).size = s.size - (i + 1) := by rw [extract_size]; omega
  have e1 : (s.extract (i + 1) s.size).extract 0 n = s.extract (i + 1) (i + 1 + n) := data_inj (by
    rw [take_data, drop_data, extract_list, List.take_drop])
  have e2 : (s.extract (i + 1) s.size).extract n (s.extract (i + 1) s.size).size = s.extract (i + 1 + n) s.size := data_inj (by
    rw [drop_data, drop_data, drop_data, List.drop_drop])
  have hat : Lib.atoiAll (s.extract 0 i).data.toList = .ok n := by rw [take_data, ← h2]; exact atoi_dec n (by omega)
  have hit : (⟨(Lib.itoa n).toArray⟩ : ByteArray) = s.extract 0 i := data_inj (by rw [take_data, ← h2, Lib.itoa_nonneg])
  have hms : (s.extract 0 i).size ≤ 140737488351232 := by rw [extract_size]; omega
  have HP := Lib.hid (no_prefix h)
  have HC := Lib.hid (cut_found s 58 i hs h58 hn)
  have HK := Lib.hid hk
  have HAT := Lib.hid hat
  have HIT := Lib.hid hit
  have hle : (n : Int) ≤ ((s.extract (i + 1) s.size).size : Int) := by omega
  have hnn : n ≤ 140737488351232 := by omega
  rw [hr]
  have E1 := Lib.hid e1
  have E2 := Lib.hid e2
  clear hr hn h hk hat hit h58 hl h1 h2 hrs e1 e2
  generalize s.extract (i + 1) s.size = rest at *
  generalize s.extract 0 i = many at *
  go_enter Tryd.func15, Tryd.ntmps15
  go_wp2_with fail
  refine (Tryd.strings_CutPrefix _ _ _).mono ?_
  rintro e w1 ⟨rfl, rfl⟩
  rw [HP.out]
  go_wp2_with fail
  refine (strings_Cut.calls _ _ _ _ _ _ HC.out).mono ?_
  rintro e w2 ⟨rfl, hb2⟩
  have HK2 := Lib.hid (HK.out.keep hb2.below)
  have H2 := Lib.hid hb2.below
  clear hb2
  go_wp2_with fail
  refine (atoi_calls many _ HK2.out hms).mono ?_
  rintro e w3 ⟨he, hb3⟩
  have H3 := Lib.hid (below_step H2.out hb3)
  have HK3 := Lib.hid (HK2.out.keep hb3)
  clear hb3
  rcases he with ⟨m, hm, rfl⟩ | ⟨hm, m, t, x, rfl⟩
  · obtain rfl : m = n := by rw [HAT.out] at hm; injection hm with hm; exact hm.symm
    clear hm
    go_wp2_with fail
    refine (itoa_any n _ HK3.out (by omega) (by omega)).mono ?_
    rintro e w4 ⟨rfl, hb4⟩
    have H4 := Lib.hid (below_step H3.out hb4)
    clear hb4
    rw [HIT.out]
    go_wp2_with fail
    go_quiet (fail)
    go_wp2_with fail
    refine bodyPost_ret (v := .tuple #[.string (rest.extract 0 n), .bool true, .string (rest.extract n rest.size), .bool true]) (by simp [results, Tryd.results15, go_sem]) rfl ⟨?_, pw_below_drewN H4.out nq⟩
    rw [E1.out, E2.out]
  · exact absurd HAT.out (hm n)

/-- A colon, and no number ahead of it that there are bytes for. -/
theorem back_none (s : ByteArray) (i : Nat) (w : World) (hk : KW w) (hs : s.size ≤ 140737488351232) (h : s.data.toList.head? ≠ some 45) (h58 : s.data.toList[i]? = some 58) (hn : ∀ (j : Nat) (d : UInt8), j < i → s.data.toList[j]? = some d → d ≠ 58) (hl : lenOf s i = none) :
    Calls Tryd.prog 15 #[.string s] w (BackPost (backR s) w) := by
  have hi : i < s.size := by have := (List.getElem?_eq_some_iff.1 h58).1; simpa using this
  have hr : backR s = none4 := by
    unfold backR
    rw [if_neg h, index_first h58 hn, if_neg (by omega), Int.toNat_natCast, hl]
  have hrs : (s.extract (i + 1) s.size).size = s.size - (i + 1) := by rw [extract_size]; omega
  have hms : (s.extract 0 i).size ≤ 140737488351232 := by rw [extract_size]; omega
  have hbad : ∀ m : Int, Lib.atoiAll (s.extract 0 i).data.toList = .ok m → m ≤ ((s.extract (i + 1) s.size).size : Int) → (⟨(Lib.itoa m).toArray⟩ : ByteArray) ≠ s.extract 0 i := by
    intro m hm hle he
    have hd : Lib.itoa m = s.data.toList.take i := by
      have := congrArg (fun b : ByteArray => b.data.toList) he
      simp only [take_data] at this
      exact this
    by_cases h0 : m < 0
    · unfold Lib.itoa at hd
      rw [if_pos h0] at hd
      cases hl2 : s.data.toList with
      | nil => rw [hl2] at hd; simp at hd
      | cons c l =>
        rw [hl2] at hd h
        cases i with
        | zero => simp at hd
        | succ i =>
          simp only [List.take_succ_cons, List.cons.injEq] at hd
          exact h (by rw [← hd.1]; rfl)
    · obtain ⟨m, rfl⟩ := Int.eq_ofNat_of_zero_le (show 0 ≤ m by omega)
      rw [Lib.itoa_nonneg] at hd
      have := (lenOf_some hs).2 ⟨show m < s.size - i by omega, hd⟩
      rw [hl] at this
      cases this
  have HP := Lib.hid (no_prefix h)
  have HC := Lib.hid (cut_found s 58 i hs h58 hn)
  have HK := Lib.hid hk
  have HB := Lib.hid hbad
  have hrl : (s.extract (i + 1) s.size).size ≤ 140737488351232 := by omega
  rw [hr]
  clear hr hn h hk h58 hl hrs hbad
  generalize s.extract (i + 1) s.size = rest at *
  generalize s.extract 0 i = many at *
  go_enter Tryd.func15, Tryd.ntmps15
  go_wp2_with fail
  refine (Tryd.strings_CutPrefix _ _ _).mono ?_
  rintro e w1 ⟨rfl, rfl⟩
  rw [HP.out]
  go_wp2_with fail
  refine (strings_Cut.calls _ _ _ _ _ _ HC.out).mono ?_
  rintro e w2 ⟨rfl, hb2⟩
  have HK2 := Lib.hid (HK.out.keep hb2.below)
  have H2 := Lib.hid hb2.below
  clear hb2
  go_wp2_with fail
  refine (atoi_calls many _ HK2.out hms).mono ?_
  rintro e w3 ⟨he, hb3⟩
  have H3 := Lib.hid (below_step H2.out hb3)
  have HK3 := Lib.hid (HK2.out.keep hb3)
  clear hb3
  rcases he with ⟨m, hm, rfl⟩ | ⟨hm, m, t, x, rfl⟩
  · have hrg := atoi_range hm
    by_cases hle : m ≤ (rest.size : Int)
    · have hne := HB.out m hm hle
      have hne2 : ((⟨(Lib.itoa m).toArray⟩ : ByteArray).toList == many.toList) = false := by
        rw [beq_eq_false_iff_ne]
        exact fun e => hne (toList_inj e)
      have hne3 : ((⟨(Lib.itoa m).toArray⟩ : ByteArray).toList != many.toList) = true := by
        rw [bne_iff_ne]
        exact fun e => hne (toList_inj e)
      have hne4 : ¬ ((⟨(Lib.itoa m).toArray⟩ : ByteArray).toList = many.toList) := fun e => hne (toList_inj e)
      have hit := itoa_any m w3 HK3.out hrg.1 hrg.2
      have HIT := Lib.hid hit
      clear hit hne hm hrg
      generalize (⟨(Lib.itoa m).toArray⟩ : ByteArray) = text at *
      go_wp2_with fail
      refine HIT.out.mono ?_
      rintro e w4 ⟨rfl, hb4⟩
      have H4 := Lib.hid (below_step H3.out hb4)
      clear hb4
      go_wp2_with fail
      refine bodyPost_ret (v := .tuple #[.string ⟨#[]⟩, .bool false, .string ⟨#[]⟩, .bool false]) (by simp [results, Tryd.results15, go_sem]) rfl ⟨rfl, H4.out⟩
    · have hgt : (rest.size : Int) < m := by omega
      clear hm hrg hle
      go_wp2_with fail
      refine bodyPost_ret (v := .tuple #[.string ⟨#[]⟩, .bool false, .string ⟨#[]⟩, .bool false]) (by simp [results, Tryd.results15, go_sem]) rfl ⟨rfl, H3.out⟩
  · clear hm
    go_wp2_with fail
    refine bodyPost_ret (v := .tuple #[.string ⟨#[]⟩, .bool false, .string ⟨#[]⟩, .bool false]) (by simp [results, Tryd.results15, go_sem]) rfl ⟨rfl, H3.out⟩

theorem back_calls (s : ByteArray) (w : World) (hk : KW w) (hs : s.size ≤ 140737488351232) :
    Calls Tryd.prog 15 #[.string s] w (BackPost (backR s) w) := by
  by_cases h : s.data.toList.head? = some 45
  · exact back_bare s w h
  · rcases first_or_none s 58 with ⟨i, h1, h2⟩ | h1
    · cases hl : lenOf s i with
      | some n => exact back_key s i n w hk hs h h1 h2 hl
      | none => exact back_none s i w hk hs h h1 h2 hl
    · exact back_nocolon s w hk hs h h1
end Go.Proofs.YtkeegffhfmhgfaaDoor
