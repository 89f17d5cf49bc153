/- What any text is the key of: there and back; the reference's answer. -/
import Derived.Test.YtkeegffhfmhgfaaDoorKeyPure
set_option linter.unusedVariables false
set_option linter.unusedSimpArgs false
namespace Go.Proofs.YtkeegffhfmhgfaaDoor
open Go.RowKit Go.Proofs.YtkeegffhfmhgfaaDoorW.PrintWords Go.Proofs.YtkeegffhfmhgfaaDoor.Plain Go.Proofs.YtkeegffhfmhgfaaDoor.PKey

theorem ofB_none (base s : ByteArray) : (ofB base false s).data.toList = 45 :: s.data.toList := by
  unfold ofB; rw [if_neg (by decide), append_data]; rfl
theorem ofB_some (base s : ByteArray) : (ofB base true s).data.toList = Lib.decDigits base.size ++ 58 :: (base.data.toList ++ s.data.toList) := by
  unfold ofB; rw [if_pos rfl, append_data, append_data, append_data]
  show ((Lib.decDigits base.size ++ [58]) ++ base.data.toList) ++ s.data.toList = _
  simp
theorem dec_first {n : Nat} {l : List UInt8} : (Lib.decDigits n ++ l).head? ≠ some 45 := by
  obtain ⟨c, m, e, h1, h2⟩ := dec_head n
  rw [e]
  intro h
  have : c = 45 := by simpa using h
  subst this
  revert h1
  decide
theorem dec_colon {n j : Nat} {l : List UInt8} {d : UInt8} (hj : j < (Lib.decDigits n).length) (h : (Lib.decDigits n ++ l)[j]? = some d) : d ≠ 58 := by
  rw [List.getElem?_append_left hj] at h
  have := dec_digits n d (List.mem_of_getElem? h)
  rintro rfl
  revert this
  decide
theorem drop_over (c : UInt8) (l : List UInt8) (k : Nat) : ∀ m : List UInt8, (m ++ c :: l).drop (m.length + 1 + k) = l.drop k
  | [] => by rw [List.length_nil, Nat.zero_add, Nat.add_comm 1 k]; rfl
  | b :: m => by rw [List.length_cons, show m.length + 1 + 1 + k = (m.length + 1 + k) + 1 by omega]; exact drop_over c l k m
theorem backR_key {s : ByteArray} {n : Nat} {l : List UInt8} (hs : s.size ≤ 140737488351232) (h : s.data.toList = Lib.decDigits n ++ 58 :: l) (hn : n ≤ l.length) :
    backR s = (⟨(l.take n).toArray⟩, true, ⟨(l.drop n).toArray⟩, true) := by
  have h58 : s.data.toList[(Lib.decDigits n).length]? = some 58 := by rw [h, List.getElem?_append_right (Nat.le_refl _), Nat.sub_self]; rfl
  have hi : Lib.indexByte s.data.toList 58 = ((Lib.decDigits n).length : Int) := indexByte_at h58 fun j d hj hd => by rw [h] at hd; exact dec_colon hj hd
  have hz : s.size = (Lib.decDigits n).length + (1 + l.length) := by rw [← len_data, h, List.length_append, List.length_cons]; omega
  have hl : lenOf s (Lib.decDigits n).length = some n := (lenOf_some hs).2 ⟨by omega, by rw [h, List.take_left]⟩
  unfold backR
  rw [if_neg (by rw [h]; exact dec_first), hi, if_neg (by omega), Int.toNat_natCast, hl]
  have e1 : s.extract ((Lib.decDigits n).length + 1) ((Lib.decDigits n).length + 1 + n) = ⟨(l.take n).toArray⟩ := data_inj (by
    rw [extract_list, h, List.drop_take, show (Lib.decDigits n).length + 1 + n - ((Lib.decDigits n).length + 1) = n by omega]; exact congrArg (List.take n) (drop_over 58 l 0 _))
  have e2 : s.extract ((Lib.decDigits n).length + 1 + n) s.size = ⟨(l.drop n).toArray⟩ := data_inj (by
    rw [drop_data, h]; exact drop_over 58 l n _)
  simp only []
  rw [e1, e2]
theorem backR_of (base s : ByteArray) (has : Bool) (h1 : base.size ≤ 1000000) (h2 : s.size ≤ 1000000) :
    backR (ofB base has s) = (if has = true then base else ⟨#[]⟩, has, s, true) := by
  cases has with
  | false =>
    have e : (ofB base false s).extract 1 (ofB base false s).size = s := data_inj (by rw [drop_data, ofB_none]; rfl)
    unfold backR
    rw [if_pos (by rw [ofB_none]; rfl), e]
    rfl
  | true =>
    have hz : (ofB base true s).size = (Lib.decDigits base.size).length + (1 + (base.size + s.size)) := by
      rw [← len_data, ofB_some, List.length_append, List.length_cons, List.length_append, len_data, len_data]; omega
    have hd := (decDigits_le base.size).2
    rw [backR_key (by omega) (ofB_some base s) (by rw [List.length_append, len_data]; omega)]
    have e1 : (⟨((base.data.toList ++ s.data.toList).take base.size).toArray⟩ : ByteArray) = base := data_inj (by
      show List.take base.size (base.data.toList ++ s.data.toList) = _
      rw [← len_data base, List.take_left])
    have e2 : (⟨((base.data.toList ++ s.data.toList).drop base.size).toArray⟩ : ByteArray) = s := data_inj (by
      show List.drop base.size (base.data.toList ++ s.data.toList) = _
      rw [← len_data base, List.drop_left])
    rw [e1, e2]
    rfl
/-- A text that tells a key is that key. -/
theorem backR_ok {s a c : ByteArray} {b : Bool} (hs : s.size ≤ 140737488351232) (h : backR s = (a, b, c, true)) : ofB a b c = s ∧ a.size ≤ s.size ∧ c.size ≤ s.size := by
  unfold backR at h
  split at h
  · rename_i h45
    injection h with ha h; injection h with hb h; injection h with hc _
    subst ha; subst hb; subst hc
    refine ⟨data_inj ?_, by show 0 ≤ _; omega, by rw [extract_size]; omega⟩
    rw [ofB_none, drop_data]
    cases hl : s.data.toList with
    | nil => rw [hl] at h45; cases h45
    | cons x l =>
      rw [hl] at h45
      obtain rfl : x = 45 := by simpa using h45
      rfl
  · split at h
    · exact Bool.noConfusion (congrArg (fun x : ByteArray × Bool × ByteArray × Bool => x.2.2.2) h)
    · rename_i h0
      rcases first_or_none s 58 with ⟨i, h1, h2⟩ | h1
      · rw [index_first h1 h2, Int.toNat_natCast] at h
        cases hl : lenOf s i with
        | none => rw [hl] at h; exact Bool.noConfusion (congrArg (fun x : ByteArray × Bool × ByteArray × Bool => x.2.2.2) h)
        | some n =>
          rw [hl] at h
          obtain ⟨g1, g2⟩ := (lenOf_some hs).1 hl
          simp only at h
          injection h with ha h; injection h with hb h; injection h with hc _
          have za : a.size = n := by rw [← ha, extract_size]; omega
          refine ⟨data_inj ?_, by omega, by rw [← hc, extract_size]; omega⟩
          subst hb
          rw [ofB_some, za, ← ha, ← hc, extract_list, drop_data, g2]
          have e58 : s.data.toList = s.data.toList.take i ++ 58 :: s.data.toList.drop (i + 1) := by
            obtain ⟨hl, hg⟩ := List.getElem?_eq_some_iff.1 h1
            rw [← hg, List.getElem_cons_drop, List.take_append_drop]
          have e3 : (s.data.toList.take (i + 1 + n)).drop (i + 1) ++ s.data.toList.drop (i + 1 + n) = s.data.toList.drop (i + 1) := by
            rw [List.drop_take, show i + 1 + n - (i + 1) = n by omega, ← List.drop_drop (i := n) (j := i + 1)]
            exact List.take_append_drop n _
          rw [e3, ← e58]
      · rw [indexByte_none h1] at h0
        exact absurd (by decide) h0

/-! ### The reference -/
theorem dec_short {n : Nat} (h : n < 1000) : (Lib.decDigits n).length ≤ 3 := by
  unfold Lib.decDigits
  split
  · show 1 ≤ 3; omega
  · rw [List.length_append]
    unfold Lib.decDigits
    split
    · show 1 + 1 ≤ 3; omega
    · rw [List.length_append]
      unfold Lib.decDigits
      rw [dif_pos (by omega)]
      show 1 + 1 + 1 ≤ 3; omega
/-- What stands behind the colon at place i. -/
def tailR (s : ByteArray) (i : Nat) : ByteArray × Bool × ByteArray × Bool :=
  match lenOf s i with
  | none => none4
  | some n => (s.extract (i + 1) (i + 1 + n), true, s.extract (i + 1 + n) s.size, true)
theorem refback_len (s : ByteArray) (i : Nat) (hs : s.size ≤ 1000000) (hi : i < s.size) : ∀ (d n : Nat), n ≤ s.size - i → s.size - i - n = d → (∀ m, m < n → Lib.decDigits m ≠ s.data.toList.take i) →
    Ev (fun k => gatepostref18_Back.l1 k s i n) (tailR s i) := by
  intro d
  induction d with
  | zero =>
    intro n hn hd hm
    have hl : lenOf s i = none := by
      cases h : lenOf s i with
      | none => rfl
      | some m =>
        obtain ⟨g1, g2⟩ := (lenOf_some (by omega)).1 h
        exact absurd g2 (hm m (by omega))
    unfold tailR
    rw [hl]
    refine Ev.step (f := fun _ => some none4) (fun k => ?_) (Ev.now _)
    have e1 : wrap64 ((s.size : Int) - (i : Int)) = (s.size : Int) - i := wrap_in (by omega) (by omega)
    have e2 : wrap64 ((s.size : Int) - (i : Int) - 1) = (s.size : Int) - i - 1 := wrap_in (by omega) (by omega)
    simp only [gatepostref18_Back.l1, e1, e2]
    rw [if_neg (by omega)]
    rfl
  | succ d ih =>
    intro n hn hd hm
    have e1 : wrap64 ((s.size : Int) - (i : Int)) = (s.size : Int) - i := wrap_in (by omega) (by omega)
    have e2 : wrap64 ((s.size : Int) - (i : Int) - 1) = (s.size : Int) - i - 1 := wrap_in (by omega) (by omega)
    have e3 : wrap64 ((i : Int) + 1) = ((i + 1 : Nat) : Int) := by rw [wrap_in (by omega) (by omega)]; omega
    have e4 : wrap64 (((i + 1 : Nat) : Int) + (n : Int)) = ((i + 1 + n : Nat) : Int) := by rw [wrap_in (by omega) (by omega)]; omega
    have e5 : wrap64 ((n : Int) + 1) = ((n + 1 : Nat) : Int) := by rw [wrap_in (by omega) (by omega)]; omega
    have hn9 : n ≤ 1000000000000 := by clear e1 e2 e3 e4 e5; omega
    have hn8 : n < s.size - i := by clear e1 e2 e3 e4 e5; omega
    have hs8 : s.size ≤ 140737488351232 := by clear e1 e2 e3 e4 e5; omega
    by_cases hq : Lib.decDigits n = s.data.toList.take i
    · have hl : lenOf s i = some n := (lenOf_some hs8).2 ⟨hn8, hq⟩
      have hb : (decB n).toList = (s.extract 0 i).toList := toList_iff.2 (data_inj (by rw [take_data]; exact hq))
      unfold tailR
      rw [hl]
      refine Ev.step (f := fun k => (gatepostref18_number.f k (n : Int)).bind fun t => if t.toList = (s.extract 0 i).toList then some (s.extract (i + 1) (i + 1 + n), true, s.extract (i + 1 + n) s.size, true) else gatepostref18_Back.l1 k s i ((n + 1 : Nat) : Int)) (fun k => ?_) (Ev.bind (number_is n hn9) ?_)
      · simp only [gatepostref18_Back.l1, e1, e2, e3, e4, e5, Int.toNat_natCast]
        clear e1 e2 e3 e4 e5
        rw [if_pos (by omega)]
        congr 1
        funext t
        rw [if_pos (by omega), if_pos (by omega)]
        by_cases ht : t.toList = (s.extract 0 i).toList
        · rw [if_pos ht, if_pos ht, if_pos (by omega), if_pos (by omega), if_pos (by omega), if_pos (by omega)]
        · rw [if_neg ht, if_neg ht]
      · simp only [if_pos hb]
        exact Ev.now _
    · have hb : ¬ (decB n).toList = (s.extract 0 i).toList := fun h => hq (by
        have := congrArg (fun x : ByteArray => x.data.toList) (toList_iff.1 h)
        simp only [take_data] at this
        exact this)
      refine Ev.step (f := fun k => (gatepostref18_number.f k (n : Int)).bind fun t => if t.toList = (s.extract 0 i).toList then some (s.extract (i + 1) (i + 1 + n), true, s.extract (i + 1 + n) s.size, true) else gatepostref18_Back.l1 k s i ((n + 1 : Nat) : Int)) (fun k => ?_) (Ev.bind (number_is n hn9) ?_)
      · simp only [gatepostref18_Back.l1, e1, e2, e3, e4, e5, Int.toNat_natCast]
        clear e1 e2 e3 e4 e5
        rw [if_pos (by omega)]
        congr 1
        funext t
        rw [if_pos (by omega), if_pos (by omega)]
        by_cases ht : t.toList = (s.extract 0 i).toList
        · rw [if_pos ht, if_pos ht, if_pos (by omega), if_pos (by omega), if_pos (by omega), if_pos (by omega)]
        · rw [if_neg ht, if_neg ht]
      · simp only [if_neg hb]
        clear e1 e2 e3 e4 e5
        refine ih (n + 1) (by omega) (by omega) fun m h => ?_
        rcases Nat.lt_succ_iff_lt_or_eq.1 h with h | rfl
        · exact hm m h
        · exact hq
theorem refback_find (s : ByteArray) (hs : s.size ≤ 300) (h45 : s.data.toList.head? ≠ some 45) : ∀ (d i : Nat), i ≤ s.size → s.size - i = d → (∀ (j : Nat) (b : UInt8), j < i → s.data.toList[j]? = some b → b ≠ 58) →
    Ev (fun k => gatepostref18_Back.l0 k s i) (backR s) := by
  intro d
  induction d with
  | zero =>
    intro i hi hd hn
    have hb : backR s = none4 := by
      unfold backR
      rw [if_neg h45, indexByte_none (fun b hb => by obtain ⟨j, hj⟩ := List.mem_iff_getElem?.1 hb; exact hn j b (by have := (List.getElem?_eq_some_iff.1 hj).1; rw [len_data] at this; omega) hj)]
      rfl
    rw [hb]
    refine Ev.step (f := fun k => gatepostref18_Back.j2 k s i false) (fun k => ?_) (Ev.step (f := fun _ => some none4) (fun k => ?_) (Ev.now _))
    · simp only [gatepostref18_Back.l0]
      rw [if_neg (by omega)]
    · simp only [gatepostref18_Back.j2]
      rfl
  | succ d ih =>
    intro i hi hd hn
    obtain ⟨c, hc⟩ := byte_some (s := s) (i := i) (by omega)
    have e3 : wrap64 ((i : Int) + 1) = ((i + 1 : Nat) : Int) := by rw [wrap_in (by omega) (by omega)]; omega
    refine Ev.step (f := fun k => gatepostref18_Back.j2 k s i (decide ((i : Int) < 20))) (fun k => ?_) ?_
    · simp only [gatepostref18_Back.l0]
      rw [if_pos (by omega)]
    · by_cases h20 : (i : Int) < 20
      · by_cases h58 : c = 58
        · subst h58
          refine Ev.step (f := fun k => gatepostref18_Back.l1 k s i ((0 : Nat) : Int)) (fun k => ?_) ?_
          · simp only [gatepostref18_Back.j2]
            rw [if_pos (decide_eq_true h20), if_pos (by omega), if_pos (by omega), bt_nat s i 58 hc, if_pos (by decide)]
            rfl
          · have hb : backR s = tailR s i := by
              unfold backR
              rw [if_neg h45, index_first hc hn, if_neg (by omega), Int.toNat_natCast]
              rfl
            rw [hb]
            exact refback_len s i (by omega) (by omega) _ 0 (by omega) rfl (fun m h => by omega)
        · refine Ev.step (f := fun k => gatepostref18_Back.l0 k s ((i + 1 : Nat) : Int)) (fun k => ?_) (ih (i + 1) (by omega) (by omega) fun j b hj hb => ?_)
          · simp only [gatepostref18_Back.j2]
            have : ¬ (c.toNat : Int) = 58 := fun h => h58 (UInt8.toNat_inj.1 (by show c.toNat = 58; omega))
            rw [if_pos (decide_eq_true h20), if_pos (by omega), if_pos (by omega), bt_nat s i c hc, if_neg this, e3]
          · rcases Nat.lt_succ_iff_lt_or_eq.1 hj with h | rfl
            · exact hn j b h hb
            · rw [hc] at hb; injection hb with hb; subst hb; exact h58
      · have hb : backR s = none4 := by
          unfold backR
          rw [if_neg h45]
          split
          · rfl
          · rename_i h0
            rcases first_or_none s 58 with ⟨a, h1, h2⟩ | h1
            · rw [index_first h1 h2, Int.toNat_natCast]
              have ha : i ≤ a := Nat.le_of_not_lt fun h => hn a 58 h h1 rfl
              have : lenOf s a = none := by
                cases h : lenOf s a with
                | none => rfl
                | some m =>
                  obtain ⟨g1, g2⟩ := (lenOf_some (by omega)).1 h
                  have h3 := dec_short (n := m) (by omega)
                  have h4 := (List.getElem?_eq_some_iff.1 h1).1
                  rw [g2, List.length_take] at h3
                  omega
              rw [this]
            · rw [indexByte_none h1] at h0
              exact absurd (by decide) h0
        rw [hb]
        refine Ev.step (f := fun _ => some none4) (fun k => ?_) (Ev.now _)
        simp only [gatepostref18_Back.j2]
        rw [if_neg (by simpa using h20)]
        rfl
theorem refback_is (s : ByteArray) (hs : s.size ≤ 300) : Ev (fun k => gatepostref18_Back.f k s) (backR s) := by
  unfold gatepostref18_Back.f
  by_cases h0 : s.size = 0
  · have hl : s.data.toList = [] := List.length_eq_zero_iff.1 (by rw [len_data]; exact h0)
    have g0 : ¬ (s.size : Int) > 0 := by omega
    simp only [if_neg g0]
    refine Ev.step (f := fun k => gatepostref18_Back.l0 k s ((0 : Nat) : Int)) (fun k => ?_) (refback_find s hs (by rw [hl]; simp) _ 0 (by omega) rfl (fun j b hj => by omega))
    simp only [gatepostref18_Back.j0]
    rfl
  · obtain ⟨c, hc⟩ := byte_some (s := s) (i := 0) (by omega)
    have hh : s.data.toList.head? = some c := by rw [List.head?_eq_getElem?]; exact hc
    have g0 : (s.size : Int) > 0 := by omega
    have g1 : 0 < (s.size : Int) := g0
    simp only [if_pos g0, if_pos g1]
    rw [show bt s 0 = (c.toNat : Int) from bt_nat s 0 c hc]
    by_cases h45 : c = 45
    · subst h45
      have hb : backR s = (⟨#[]⟩, false, s.extract 1 s.size, true) := by unfold backR; rw [if_pos hh]
      rw [hb]
      refine Ev.step (f := fun _ => some (⟨#[]⟩, false, s.extract 1 s.size, true)) (fun k => ?_) (Ev.now _)
      simp only [gatepostref18_Back.j0]
      rw [if_pos (by decide), if_pos (by omega)]
    · refine Ev.step (f := fun k => gatepostref18_Back.l0 k s ((0 : Nat) : Int)) (fun k => ?_) (refback_find s hs (by rw [hh]; intro h; injection h with h; exact h45 h) _ 0 (by omega) rfl (fun j b hj => by omega))
      simp only [gatepostref18_Back.j0]
      have : ¬ (c.toNat : Int) = 45 := fun h => h45 (UInt8.toNat_inj.1 (by show c.toNat = 45; omega))
      rw [if_neg (by simpa using this)]
      rfl
end Go.Proofs.YtkeegffhfmhgfaaDoor
