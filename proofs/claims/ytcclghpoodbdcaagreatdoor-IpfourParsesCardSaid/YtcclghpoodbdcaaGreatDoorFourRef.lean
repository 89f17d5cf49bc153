/- What the reference of ipfour tells: the same parts, numbers, address, and ends. -/
import Derived.Test.YtcclghpoodbdcaaGreatDoorFourBack
import Derived.Test.YtcclghpoodbdcaaGreatDoorPureLib
import Derived.Test.YtcclghpoodbdcaaGreatDoorPFourx3
import Derived.Test.YtcclghpoodbdcaaGreatDoorPFourx3
set_option linter.unusedVariables false
set_option linter.unusedSimpArgs false
namespace Go.Proofs.YtcclghpoodbdcaaGreatDoor
open Go.RowKit Go.Proofs.YtcclghpoodbdcaaGreatDoorW.PrintWords Go.Proofs.YtcclghpoodbdcaaGreatDoor.PFour Go.Proofs.YtcclghpoodbdcaaGreatDoor.Plain Four

theorem evP {α : Type} {c : Prop} [Decidable c] {f g : Nat → Option α} {r : α} (h : c) (k : Ev f r) : Ev (fun n => if c then f n else g n) r := Ev.ite (fun _ => k) (fun e => absurd h e)
theorem evN {α : Type} {c : Prop} [Decidable c] {f g : Nat → Option α} {r : α} (h : ¬ c) (k : Ev g r) : Ev (fun n => if c then f n else g n) r := Ev.ite (fun e => absurd e h) (fun _ => k)
theorem byte_eq {c d : UInt8} : ((c.toNat : Int) = (d.toNat : Int)) ↔ c = d := ⟨fun h => UInt8.toNat_inj.1 (by omega), fun h => by rw [h]⟩

/-! ### Split -/
def consHead (cur : List UInt8) : List (List UInt8) → List (List UInt8)
  | [] => [cur]
  | p :: ps => (cur ++ p) :: ps
theorem consHead_nil {l : List (List UInt8)} (h : l ≠ []) : consHead [] l = l := by
  cases l with
  | nil => exact absurd rfl h
  | cons p ps => rfl
theorem extract_mk (s : ByteArray) (a b : Nat) : s.extract a b = mkB ((s.data.toList.take b).drop a) := by
  refine data_inj ?_
  rw [mkB_data, Lib.extract_data, List.drop_take]
theorem split_ev (s : ByteArray) (c : UInt8) (hs : s.size ≤ 1000) : ∀ (d i fr : Nat) (out : List ByteArray), i ≤ s.size → fr ≤ i → s.size - i = d → out.length ≤ i →
    Ev (fun k => gatepostref07_Split.l0 k s c.toNat out fr i) (out ++ (consHead ((s.data.toList.take i).drop fr) (splitL c (s.data.toList.drop i))).map mkB) := by
  intro d
  induction d with
  | zero =>
    intro i fr out hi hf hd ho
    have e : i = s.size := by omega
    have e2 : s.data.toList.drop i = [] := List.drop_of_length_le (by rw [len_data]; omega)
    rw [e2]
    refine Ev.step (f := fun k => gatepostref07_Split.l0 k s c.toNat (out ++ [s.extract fr i]) ((i : Int) + 1) ((i : Int) + 1)) (fun k => ?_) (Ev.step (f := fun _ => some _) (fun k => ?_) (Ev.now _))
    · simp only [gatepostref07_Split.l0]
      rw [if_pos (by omega), if_pos (by omega), if_pos (by omega), if_pos (by omega), if_pos (by omega), wrap_in (by omega) (by omega)]
      rfl
    · simp only [gatepostref07_Split.l0]
      rw [if_neg (by omega)]
      rw [extract_mk]
      simp [consHead, splitL]
  | succ d ih =>
    intro i fr out hi hf hd ho
    obtain ⟨x, hx⟩ := byte_some (s := s) (i := i) (by omega)
    obtain ⟨hl, hg⟩ := List.getElem?_eq_some_iff.1 hx
    have hdr : s.data.toList.drop i = x :: s.data.toList.drop (i + 1) := by rw [List.drop_eq_getElem_cons hl, hg]
    have htk : s.data.toList.take (i + 1) = s.data.toList.take i ++ [x] := by rw [List.take_succ_eq_append_getElem hl, hg]
    have hxc : ((x.toNat : Int) = (c.toNat : Int)) ↔ x = c := ⟨fun h => UInt8.toNat_inj.1 (by omega), fun h => by rw [h]⟩
    rw [hdr]
    by_cases e : x = c
    · have h := ih (i + 1) (i + 1) (out ++ [s.extract fr i]) (by omega) (Nat.le_refl _) (by omega) (by simp; omega)
      refine Ev.step (f := fun k => gatepostref07_Split.l0 k s c.toNat (out ++ [s.extract fr i]) ((i + 1 : Nat) : Int) ((i + 1 : Nat) : Int)) (fun k => ?_) ?_
      · simp only [gatepostref07_Split.l0]
        rw [if_pos (by omega), if_neg (by omega), if_pos (by omega), if_pos (by omega), bt_nat s i x hx, if_pos (hxc.2 e), if_pos (by omega), if_pos (by omega), if_pos (by omega), wrap_in (by omega) (by omega)]
        rfl
      · have hz : (s.data.toList.take (i + 1)).drop (i + 1) = [] := List.drop_of_length_le (by rw [List.length_take]; omega)
        rw [hz, consHead_nil (splitL_ne _ _)] at h
        subst e
        rw [splitL_eq]
        rw [extract_mk] at h
        simpa [consHead, extract_mk] using h
    · have h := ih (i + 1) fr out (by omega) (by omega) (by omega) (by omega)
      refine Ev.step (f := fun k => gatepostref07_Split.l0 k s c.toNat out fr ((i + 1 : Nat) : Int)) (fun k => ?_) ?_
      · simp only [gatepostref07_Split.l0]
        rw [if_pos (by omega), if_neg (by omega), if_pos (by omega), if_pos (by omega), bt_nat s i x hx, if_neg (fun h => e (hxc.1 h)), wrap_in (by omega) (by omega)]
        rfl
      · rw [htk, List.drop_append_of_le_length (by rw [List.length_take, len_data]; omega)] at h
        have hne := splitL_ne c (s.data.toList.drop (i + 1))
        cases hsp : splitL c (s.data.toList.drop (i + 1)) with
        | nil => exact absurd hsp hne
        | cons p ps =>
          rw [splitL_step e hsp]
          rw [hsp] at h
          simpa [consHead] using h
theorem split_ref (s : ByteArray) (c : UInt8) (hs : s.size ≤ 1000) : Ev (fun k => gatepostref07_Split.f k s c.toNat) ((splitL c s.data.toList).map mkB) := by
  have h := split_ev s c hs s.size 0 0 [] (Nat.zero_le _) (Nat.le_refl _) rfl (Nat.le_refl _)
  simp only [List.drop_zero, List.take_zero] at h
  rw [consHead_nil (splitL_ne _ _), List.nil_append] at h
  exact h
theorem rdOf_map (l : List (List UInt8)) (i : Nat) (x : List UInt8) (h : l[i]? = some x) : rdOf ByteArray.empty (l.map mkB) (i : Int) = mkB x := by
  simp [rdOf, List.getD_eq_getElem?_getD, h]

/-! ### parts -/
theorem mkB_nil_iff (l : List UInt8) : (mkB l).toList = ([] : List UInt8) ↔ l = [] := by rw [ByteArray.toList_eq, mkB_data]
theorem parts_ref (s : ByteArray) (hs : s.size ≤ 1000) : Ev (fun k => gatepostref07_parts.f k s) ((partsL s.data.toList).map mkB) := by
  unfold gatepostref07_parts.f
  have h46 : (46 : Int) = ((46 : UInt8).toNat : Int) := rfl
  rw [h46]
  refine Ev.bind (split_ref s 46 hs) ?_
  have hp := splitL_pos 46 s.data.toList
  have hl := splitL_length 46 s.data.toList
  have hz : s.data.toList.length = s.size := len_data s
  have hat := last_at (d := []) hp
  unfold partsL
  generalize splitL 46 s.data.toList = L at hp hl hat ⊢
  rw [List.length_map]
  by_cases h1 : 1 < L.length
  · have hw : wrap64 ((L.length : Int) - 1) = ((L.length - 1 : Nat) : Int) := by rw [wrap_in (by omega) (by omega)]; omega
    rw [if_pos (by omega), hw, if_pos (by omega), if_pos (by omega), rdOf_map L _ _ hat]
    by_cases h2 : L.getLastD [] = []
    · rw [if_pos ((mkB_nil_iff _).2 h2), if_pos (by omega), if_pos ⟨h1, h2⟩]
      have : (L.map mkB).take ((L.length - 1 : Nat) : Int).toNat = L.dropLast.map mkB := by
        rw [Int.toNat_natCast, ← List.map_take, List.dropLast_eq_take]
      rw [this]
      exact Ev.now _
    · rw [if_neg (fun e => h2 ((mkB_nil_iff _).1 e)), if_neg (fun e => h2 e.2)]
      exact Ev.now _
  · rw [if_neg (by omega), if_neg (fun e => h1 e.1)]
    exact Ev.now _

/-! ### number -/
def numI : Option Nat → Int
  | some n => n
  | none => -1
theorem value_ref (c : UInt8) : Ev (fun k => gatepostref03_Value.f k c.toNat) (if figure c = 99 then -1 else (figure c : Int)) := by
  have hc := c.toNat_lt
  have hf : figure c = if 48 ≤ c.toNat ∧ c.toNat ≤ 57 then c.toNat - 48 else if 97 ≤ c.toNat ∧ c.toNat ≤ 102 then c.toNat - 87 else if 65 ≤ c.toNat ∧ c.toNat ≤ 70 then c.toNat - 55 else 99 := rfl
  rw [hf]
  generalize c.toNat = n at hc ⊢
  unfold gatepostref03_Value.f
  have j0 : ∀ b, Ev (fun k => gatepostref03_Value.j0 k (n : Int) b) (if b = true then (n : Int) - 48 else if 65 ≤ n ∧ n ≤ 70 then (n : Int) - 55 else if 97 ≤ n ∧ n ≤ 102 then (n : Int) - 87 else -1) := fun b => by
    refine Ev.step (f := fun k => if b = true then some ((n : Int) - 48) else if (n : Int) ≥ 65 then gatepostref03_Value.j1 k n (decide ((n : Int) ≤ 70)) else gatepostref03_Value.j1 k n false) (fun k => ?_) ?_
    · simp only [gatepostref03_Value.j0]
      rw [wrap_in (x := (n : Int)) (by omega) (by omega), wrap_in (by omega) (by omega)]
    · have j1 : ∀ b, Ev (fun k => gatepostref03_Value.j1 k (n : Int) b) (if b = true then (n : Int) - 55 else if 97 ≤ n ∧ n ≤ 102 then (n : Int) - 87 else -1) := fun b => by
        refine Ev.step (f := fun k => if b = true then some ((n : Int) - 55) else if (n : Int) ≥ 97 then (if (n : Int) ≤ 102 then some ((n : Int) - 87) else some (-1)) else some (-1)) (fun k => ?_) ?_
        · simp only [gatepostref03_Value.j1]
          rw [wrap_in (x := (n : Int)) (by omega) (by omega), wrap_in (x := (n : Int) - 65) (by omega) (by omega), wrap_in (x := (n : Int) - 97) (by omega) (by omega), wrap_in (x := (n : Int) - 65 + 10) (by omega) (by omega), wrap_in (x := (n : Int) - 97 + 10) (by omega) (by omega)]
          rw [show (n : Int) - 65 + 10 = (n : Int) - 55 by omega, show (n : Int) - 97 + 10 = (n : Int) - 87 by omega]
        · refine Ev.ite (fun h => by rw [if_pos h]; exact Ev.now _) (fun h => ?_)
          rw [if_neg h]
          refine Ev.ite (fun h1 => Ev.ite (fun h2 => ?_) (fun h2 => ?_)) (fun h1 => ?_)
          · rw [if_pos (by omega)]; exact Ev.now _
          · rw [if_neg (by omega)]; exact Ev.now _
          · rw [if_neg (by omega)]; exact Ev.now _
      refine Ev.ite (fun h => by rw [if_pos h]; exact Ev.now _) (fun h => ?_)
      rw [if_neg h]
      refine Ev.ite (fun h1 => ?_) (fun h1 => ?_)
      · have := j1 (decide ((n : Int) ≤ 70))
        by_cases h2 : (n : Int) ≤ 70
        · rw [if_pos (by simpa using h2)] at this
          rw [if_pos (by omega)]
          exact this
        · rw [if_neg (by simpa using h2)] at this
          rw [if_neg (by omega)]
          exact this
      · have := j1 false
        rw [if_neg (by simp)] at this
        rw [if_neg (by omega)]
        exact this
  refine Ev.ite (fun h => ?_) (fun h => ?_)
  · have := j0 (decide ((n : Int) ≤ 57))
    by_cases h2 : (n : Int) ≤ 57
    · rw [if_pos (by simpa using h2)] at this
      rw [if_pos (show 48 ≤ n ∧ n ≤ 57 by omega)]
      rw [if_neg (by omega)]
      rw [show ((n - 48 : Nat) : Int) = (n : Int) - 48 by omega]
      exact this
    · rw [if_neg (by simpa using h2)] at this
      rw [if_neg (show ¬ (48 ≤ n ∧ n ≤ 57) by omega)]
      by_cases h3 : 65 ≤ n ∧ n ≤ 70
      · rw [if_pos h3] at this
        rw [if_neg (show ¬ (97 ≤ n ∧ n ≤ 102) by omega), if_pos h3, if_neg (by omega), show ((n - 55 : Nat) : Int) = (n : Int) - 55 by omega]
        exact this
      · rw [if_neg h3] at this
        by_cases h4 : 97 ≤ n ∧ n ≤ 102
        · rw [if_pos h4] at this
          rw [if_pos h4, if_neg (by omega), show ((n - 87 : Nat) : Int) = (n : Int) - 87 by omega]
          exact this
        · rw [if_neg h4] at this
          rw [if_neg h4, if_neg h3, if_pos rfl]
          exact this
  · have := j0 false
    rw [if_neg (by simp), if_neg (by omega), if_neg (by omega)] at this
    rw [if_neg (show ¬ (48 ≤ n ∧ n ≤ 57) by omega), if_neg (show ¬ (97 ≤ n ∧ n ≤ 102) by omega), if_neg (show ¬ (65 ≤ n ∧ n ≤ 70) by omega), if_pos rfl]
    exact this
theorem number_l0 (s : ByteArray) (b : Nat) (hb : b ≤ 16) (hs : s.size ≤ 1000) : ∀ (d i n : Nat), i ≤ s.size → s.size - i = d → n ≤ most →
    Ev (fun k => gatepostref07_number.l0 k s b n i) (numI (numR b (s.data.toList.drop i) n)) := by
  intro d
  induction d with
  | zero =>
    intro i n hi hd hn
    have e2 : s.data.toList.drop i = [] := List.drop_of_length_le (by rw [len_data]; omega)
    rw [e2]
    refine Ev.step (f := fun _ => some _) (fun k => ?_) (Ev.now _)
    simp only [gatepostref07_number.l0]
    rw [if_neg (by omega)]
    rfl
  | succ d ih =>
    intro i n hi hd hn
    obtain ⟨x, hx⟩ := byte_some (s := s) (i := i) (by omega)
    obtain ⟨hl, hg⟩ := List.getElem?_eq_some_iff.1 hx
    have hdr : s.data.toList.drop i = x :: s.data.toList.drop (i + 1) := by rw [List.drop_eq_getElem_cons hl, hg]
    have hf := figure_le x
    have hv := value_ref x
    rw [hdr]
    show Ev _ (numI (if figure x < b then numR b (s.data.toList.drop (i + 1)) (min (n * b + figure x) most) else none))
    have hnb : n * b ≤ 1099511627776 * 16 := Nat.mul_le_mul hn hb
    have hnb2 : ((n * b : Nat) : Int) = (n : Int) * (b : Int) := by simp
    refine Ev.step (f := fun k => (gatepostref03_Value.f k x.toNat).bind fun t => if t < 0 then gatepostref07_number.j3 k s b n i t true else gatepostref07_number.j3 k s b n i t (decide (t ≥ (b : Int)))) (fun k => ?_) (Ev.bind hv ?_)
    · simp only [gatepostref07_number.l0]
      rw [if_pos (by omega), if_pos (by omega), bt_nat s i x hx]
    · by_cases h99 : figure x = 99
      · rw [if_pos h99, if_neg (show ¬ figure x < b by omega)]
        refine Ev.ite (fun _ => ?_) (fun h => absurd (show (-1 : Int) < 0 by decide) h)
        refine Ev.step (f := fun _ => some _) (fun k => ?_) (Ev.now _)
        simp only [gatepostref07_number.j3]
        rfl
      · rw [if_neg h99]
        refine Ev.ite (fun h => absurd h (by omega)) (fun _ => ?_)
        by_cases hfb : figure x < b
        · rw [if_pos hfb, show decide (((figure x : Nat) : Int) ≥ (b : Int)) = false by simp; omega]
          have h := ih (i + 1) (min (n * b + figure x) most) (by omega) (by omega) (Nat.min_le_right _ _)
          refine Ev.step (f := fun k => gatepostref07_number.l0 k s b ((min (n * b + figure x) most : Nat) : Int) ((i + 1 : Nat) : Int)) (fun k => ?_) h
          simp only [gatepostref07_number.j3]
          rw [if_neg (by simp), wrap_in (x := (n : Int) * (b : Int)) (by omega) (by omega), wrap_in (x := (n : Int) * (b : Int) + (figure x : Int)) (by omega) (by omega), wrap_in (x := (i : Int) + 1) (by omega) (by omega)]
          unfold most
          by_cases hbig : (n : Int) * (b : Int) + (figure x : Int) > 1099511627776
          · rw [if_pos hbig, show ((min (n * b + figure x) 1099511627776 : Nat) : Int) = 1099511627776 by omega]; rfl
          · rw [if_neg hbig, show ((min (n * b + figure x) 1099511627776 : Nat) : Int) = (n : Int) * b + figure x by omega]; rfl
        · rw [if_neg hfb, show decide (((figure x : Nat) : Int) ≥ (b : Int)) = true by simp; omega]
          refine Ev.step (f := fun _ => some _) (fun k => ?_) (Ev.now _)
          simp only [gatepostref07_number.j3]
          rfl
theorem number_j1 (s : ByteArray) (b fr : Nat) (hb : b ≤ 16) (hs : s.size ≤ 1000) (hf : fr ≤ s.size) : Ev (fun k => gatepostref07_number.j1 k s b fr) (numI (numR b (s.data.toList.drop fr) 0)) := by
  refine Ev.step (fun k => ?_) (number_l0 s b hb hs (s.size - fr) fr 0 hf rfl (Nat.zero_le _))
  simp only [gatepostref07_number.j1]
  rfl
theorem number_j0 (s : ByteArray) (x : Bool) (hs : s.size ≤ 1000) (h1 : 1 ≤ s.size) (h2 : x = true → 2 ≤ s.size) : Ev (fun k => gatepostref07_number.j0 k s 10 0 x) (numI (if x = true then numR 16 (s.data.toList.drop 2) 0 else if 1 < s.size ∧ bt s 0 = 48 then numR 8 (s.data.toList.drop 1) 0 else numR 10 s.data.toList 0)) := by
  refine Ev.step (f := fun k => if x = true then gatepostref07_number.j1 k s 16 2 else (if (s.size : Int) > 1 then (if (0 : Int) < (s.size : Int) then (if bt s 0 = 48 then gatepostref07_number.j1 k s 8 1 else gatepostref07_number.j1 k s 10 0) else none) else gatepostref07_number.j1 k s 10 0)) (fun k => ?_) ?_
  · simp only [gatepostref07_number.j0]
  · refine Ev.ite (fun h => ?_) (fun h => ?_)
    · rw [if_pos h]; exact number_j1 s 16 2 (by omega) hs (h2 h)
    · rw [if_neg h]
      have h10 := number_j1 s 10 0 (by omega) hs (by omega)
      rw [List.drop_zero] at h10
      refine Ev.ite (fun h3 => ?_) (fun h3 => ?_)
      · refine evP (show (0 : Int) < (s.size : Int) by omega) ?_
        refine Ev.ite (fun h4 => ?_) (fun h4 => ?_)
        · rw [if_pos ⟨by omega, h4⟩]; exact number_j1 s 8 1 (by omega) hs (by omega)
        · rw [if_neg (fun e => h4 e.2)]; exact h10
      · rw [if_neg (fun e => h3 (by omega))]; exact h10
theorem number_ref (s : ByteArray) (hs : s.size ≤ 1000) : Ev (fun k => gatepostref07_number.f k s) (numI (numL s.data.toList)) := by
  have hz := len_data s
  unfold gatepostref07_number.f
  match hl : s.data.toList with
  | [] =>
    rw [hl] at hz
    simp at hz
    exact evP (by omega) (Ev.now _)
  | [c] =>
    rw [hl] at hz
    simp at hz
    refine evN (by omega) (evN (by omega) ?_)
    have := number_j0 s false hs (by omega) (by simp)
    rw [if_neg (by simp), if_neg (by omega), hl] at this
    exact this
  | c :: d :: l =>
    rw [hl] at hz
    simp at hz
    have b0 : bt s 0 = (c.toNat : Int) := bt_nat s 0 c (by rw [hl]; rfl)
    have b1 : bt s 1 = (d.toNat : Int) := bt_nat s 1 d (by rw [hl]; rfl)
    have ec : ((c.toNat : Int) = 48) ↔ c = 48 := byte_eq (d := 48)
    have e120 : ((d.toNat : Int) = 120) ↔ d = 120 := byte_eq (d := 120)
    have e88 : ((d.toNat : Int) = 88) ↔ d = 88 := byte_eq (d := 88)
    have j0 := fun x => number_j0 s x hs (by omega) (fun _ => by omega)
    rw [hl, b0] at j0
    rw [b0, b1]
    refine evN (by omega) (evP (by omega) (evP (by omega) ?_))
    show Ev _ (numI (if c = 48 then (if d = 120 ∨ d = 88 then numR 16 l 0 else numR 8 (d :: l) 0) else numR 10 (c :: d :: l) 0))
    by_cases hc : c = 48
    · rw [if_pos hc]
      refine evP (ec.2 hc) (evP (by omega) ?_)
      by_cases hd : d = 120
      · rw [if_pos (.inl hd)]
        refine evP (e120.2 hd) ?_
        have := j0 true
        rw [if_pos rfl] at this
        exact this
      · refine evN (fun e => hd (e120.1 e)) ?_
        by_cases hd2 : d = 88
        · rw [if_pos (.inr hd2)]
          have := j0 true
          rw [if_pos rfl] at this
          rw [show ((d.toNat : Int) == 88) = true by rw [beq_iff_eq]; exact e88.2 hd2]
          exact this
        · rw [if_neg (by rintro (e | e); exact hd e; exact hd2 e)]
          have := j0 false
          rw [if_neg (by simp), if_pos ⟨by omega, ec.2 hc⟩] at this
          rw [show ((d.toNat : Int) == 88) = false by rw [beq_eq_false_iff_ne]; exact fun e => hd2 (e88.1 e)]
          exact this
    · rw [if_neg hc]
      refine evN (fun e => hc (ec.1 e)) ?_
      have := j0 false
      rw [if_neg (by simp), if_neg (fun e => hc (ec.1 e.2))] at this
      exact this

/-! ### Parse -/
def toI (p : Nat × Nat) : Int × Int := ((p.1 : Int), (p.2 : Int))
theorem addN_add : ∀ (l : List Nat) (i a b : Nat), addN l i (a + b) = (addN l i a).map (· + b)
  | [], i, a, b => rfl
  | n :: l, i, a, b => by
    unfold addN
    by_cases h : 255 < n
    · rw [if_pos h, if_pos h]; rfl
    · rw [if_neg h, if_neg h, ← addN_add l (i + 1) _ b]
      congr 1
      omega
def num4 (p : List UInt8) : Nat := (numL p).getD 0
theorem num4_le (p : List UInt8) : num4 p ≤ 1099511627776 := by
  unfold num4
  cases e : numL p with
  | none => simp
  | some m => exact numL_le p m e
theorem nref_at (Q : List (List UInt8)) (hsz : ∀ q ∈ Q, q.length ≤ 1000) {i : Nat} {p : List UInt8} (h : Q[i]? = some p) : Ev (fun k => gatepostref07_number.f k (rdOf ByteArray.empty (Q.map mkB) (i : Int))) (numI (numL p)) := by
  rw [rdOf_map Q i p h]
  have := number_ref (mkB p) (by rw [mkB_size]; exact hsz p (List.mem_of_getElem? h))
  rwa [mkB_data] at this
theorem parse_l0 (Q : List (List UInt8)) (hsz : ∀ q ∈ Q, q.length ≤ 1000) (hn : Q.length ≤ 1001) (R : Int × Int) (hR : Q.all (fun p => (numL p).isSome) = true → Ev (fun k => gatepostref07_Parse.l1 k (Q.map mkB) 0 16777216 0) R) :
    ∀ (d i : Nat), i ≤ Q.length → Q.length - i = d → (∀ p ∈ Q.take i, (numL p).isSome = true) → Ev (fun k => gatepostref07_Parse.l0 k (Q.map mkB) i) (if Q.all (fun p => (numL p).isSome) = true then R else (0, 2)) := by
  intro d
  induction d with
  | zero =>
    intro i hi hd hs
    have hall : Q.all (fun p => (numL p).isSome) = true := List.all_eq_true.2 (by rw [List.take_of_length_le (by omega)] at hs; exact hs)
    rw [if_pos hall]
    refine Ev.step (fun k => ?_) (hR hall)
    simp only [gatepostref07_Parse.l0, List.length_map]
    rw [if_neg (by omega)]
  | succ d ih =>
    intro i hi hd hs
    obtain ⟨p, hp⟩ : ∃ p, Q[i]? = some p := ⟨_, List.getElem?_eq_getElem (by omega)⟩
    refine Ev.step (f := fun k => (gatepostref07_number.f k (rdOf ByteArray.empty (Q.map mkB) (i : Int))).bind fun t => if t < 0 then some (0, 2) else gatepostref07_Parse.l0 k (Q.map mkB) ((i + 1 : Nat) : Int)) (fun k => ?_) (Ev.bind (nref_at Q hsz hp) ?_)
    · simp only [gatepostref07_Parse.l0, List.length_map]
      rw [if_pos (by omega), if_pos (by omega), wrap_in (by omega) (by omega)]
      rfl
    · cases hx : numL p with
      | none =>
        refine evP (by decide) ?_
        rw [if_neg]
        · exact Ev.now _
        · intro h
          have := List.all_eq_true.1 h p (List.mem_of_getElem? hp)
          rw [hx] at this
          cases this
      | some m =>
        refine evN (by unfold numI; simp) ?_
        refine ih (i + 1) (by omega) (by omega) ?_
        have htk : Q.take (i + 1) = Q.take i ++ [p] := by
          obtain ⟨hl, hg⟩ := List.getElem?_eq_some_iff.1 hp
          rw [List.take_succ_eq_append_getElem hl, hg]
        rw [htk]
        intro q hq
        rcases List.mem_append.1 hq with hq | hq
        · exact hs q hq
        · rw [List.mem_singleton.1 hq, hx]; rfl
theorem pow_step (j : Nat) (h : j ≤ 2) : wrap64 (Int.tdiv ((256 ^ (3 - j) : Nat) : Int) 256) = ((256 ^ (3 - (j + 1)) : Nat) : Int) := by
  obtain rfl | rfl | rfl : j = 0 ∨ j = 1 ∨ j = 2 := by omega
  · decide +kernel
  · decide +kernel
  · decide +kernel
theorem pow_le (j : Nat) : 256 ^ (3 - j) ≤ 16777216 := by
  have : 256 ^ (3 - j) ≤ 256 ^ 3 := Nat.pow_le_pow_right (by decide) (by omega)
  exact this
theorem parse_l1 (Q : List (List UInt8)) (hsz : ∀ q ∈ Q, q.length ≤ 1000) (n : Nat) (hn : Q.length = n + 1) (h4 : n ≤ 3) (hall : Q.all (fun p => (numL p).isSome) = true) :
    ∀ (d j a : Nat), j ≤ n → n - j = d → a + 256 ^ (4 - j) ≤ 4294967296 →
    Ev (fun k => gatepostref07_Parse.l1 k (Q.map mkB) a ((256 ^ (3 - j) : Nat) : Int) j) (toI (ansN (if 256 ^ (4 - n) ≤ num4 (Q.getLastD []) then none else (addN ((Q.map num4).dropLast.drop j) j a).map (· + num4 (Q.getLastD []))))) := by
  have hlast := last_at (d := []) (show 1 ≤ Q.length by omega)
  rw [hn, show n + 1 - 1 = n by omega] at hlast
  have hnum : ∀ p ∈ Q, numL p = some (num4 p) := fun p hp => by
    have := List.all_eq_true.1 hall p hp
    unfold num4
    cases e : numL p with
    | none => rw [e] at this; cases this
    | some m => rfl
  have hw : wrap64 (((n + 1 : Nat) : Int) - 1) = (n : Int) := by rw [wrap_in (by omega) (by omega)]; omega
  have hdl : (Q.map num4).dropLast.length = n := by rw [List.length_dropLast, List.length_map, hn]; rfl
  intro d
  induction d with
  | zero =>
    intro j a hj hd ha
    have e : j = n := by omega
    subst e
    have hd0 : (Q.map num4).dropLast.drop j = [] := List.drop_of_length_le (by omega)
    rw [hd0]
    have hl := nref_at Q hsz hlast
    rw [hnum _ (List.mem_of_getElem? hlast)] at hl
    have hle := num4_le (Q.getLastD [])
    have hp := pow_le j
    have e2 : 256 ^ (4 - j) = 256 * 256 ^ (3 - j) := by rw [show 4 - j = (3 - j) + 1 by omega, Nat.pow_succ, Nat.mul_comm]
    rw [e2] at ha ⊢
    generalize num4 (Q.getLastD []) = x at hl hle ⊢
    generalize 256 ^ (3 - j) = y at hp ha ⊢
    refine Ev.step (f := fun k => (gatepostref07_number.f k (rdOf ByteArray.empty (Q.map mkB) (j : Int))).bind fun t => if t ≥ ((256 * y : Nat) : Int) then some (0, 3) else some ((wrap64 ((a : Int) + t)) % 4294967296, 0)) (fun k => ?_) (Ev.bind hl ?_)
    · simp only [gatepostref07_Parse.l1, List.length_map, hn]
      rw [hw, if_neg (by omega), if_pos (by omega), if_pos (by omega), wrap_in (x := 256 * (y : Int)) (by omega) (by omega)]
      rfl
    · by_cases hbig : 256 * y ≤ x
      · rw [if_pos hbig]
        exact evP (by show (x : Int) ≥ _; omega) (Ev.now _)
      · rw [if_neg hbig]
        refine evN (by show ¬ (x : Int) ≥ _; omega) ?_
        have : (wrap64 ((a : Int) + numI (some x))) % 4294967296 = ((a + x : Nat) : Int) := by
          show (wrap64 ((a : Int) + (x : Int))) % 4294967296 = _
          rw [wrap_in (by omega) (by omega)]
          omega
        rw [this]
        exact Ev.now _
  | succ d ih =>
    intro j a hj hd ha
    obtain ⟨p, hp⟩ : ∃ p, Q[j]? = some p := ⟨_, List.getElem?_eq_getElem (by omega)⟩
    have hl := nref_at Q hsz hp
    rw [hnum _ (List.mem_of_getElem? hp)] at hl
    have hI : (Q.map num4).dropLast[j]? = some (num4 p) := by
      have h1 : (Q.map num4)[j]? = some (num4 p) := by rw [List.getElem?_map, hp]; rfl
      obtain ⟨h2, h3⟩ := List.getElem?_eq_some_iff.1 h1
      rw [List.getElem?_eq_getElem (by omega), List.getElem_dropLast, h3]
    have hst : addN ((Q.map num4).dropLast.drop j) j a = if 255 < num4 p then none else addN ((Q.map num4).dropLast.drop (j + 1)) (j + 1) (a + num4 p * 256 ^ (3 - j)) := by
      obtain ⟨h2, h3⟩ := List.getElem?_eq_some_iff.1 hI
      rw [List.drop_eq_getElem_cons h2, h3]
      rfl
    have hle := num4_le p
    have hps := pow_step j (by omega)
    have hpl := pow_le j
    have e2 : 256 ^ (4 - j) = 256 * 256 ^ (3 - j) := by rw [show 4 - j = (3 - j) + 1 by omega, Nat.pow_succ, Nat.mul_comm]
    have e3 : 4 - (j + 1) = 3 - j := by omega
    refine Ev.step (f := fun k => (gatepostref07_number.f k (rdOf ByteArray.empty (Q.map mkB) (j : Int))).bind fun t => if t > 255 then some (0, 3) else (gatepostref07_number.f k (rdOf ByteArray.empty (Q.map mkB) (j : Int))).bind fun t2 => gatepostref07_Parse.l1 k (Q.map mkB) (wrap64 ((a : Int) + (wrap64 (t2 * ((256 ^ (3 - j) : Nat) : Int))))) ((256 ^ (3 - (j + 1)) : Nat) : Int) ((j + 1 : Nat) : Int)) (fun k => ?_) (Ev.bind hl ?_)
    · simp only [gatepostref07_Parse.l1, List.length_map, hn]
      rw [hw, hps, if_pos (by omega), if_pos (by omega), if_pos (by omega), wrap_in (x := (j : Int) + 1) (by omega) (by omega)]
      rfl
    · rw [hst]
      by_cases h255 : 255 < num4 p
      · rw [if_pos h255]
        refine evP (by show ((num4 p : Nat) : Int) > 255; omega) ?_
        have : ansN (if 256 ^ (4 - n) ≤ num4 (Q.getLastD []) then none else Option.map (· + num4 (Q.getLastD [])) none) = (0, 3) := by split <;> rfl
        rw [this]
        exact Ev.now _
      · rw [if_neg h255]
        refine evN (by show ¬ ((num4 p : Nat) : Int) > 255; omega) (Ev.bind hl ?_)
        have hm : num4 p * 256 ^ (3 - j) ≤ 255 * 256 ^ (3 - j) := Nat.mul_le_mul_right _ (by omega)
        have hc : numI (some (num4 p)) * ((256 ^ (3 - j) : Nat) : Int) = ((num4 p * 256 ^ (3 - j) : Nat) : Int) := by show ((num4 p : Nat) : Int) * _ = _; simp
        rw [hc]
        rw [e2] at ha
        have := ih (j + 1) (a + num4 p * 256 ^ (3 - j)) (by omega) (by omega) (by rw [e3]; omega)
        generalize num4 p * 256 ^ (3 - j) = z at hm this ⊢
        rw [wrap_in (x := (z : Int)) (by omega) (by omega), wrap_in (x := (a : Int) + (z : Int)) (by omega) (by omega)]
        exact this
theorem parse_ref (s : ByteArray) (hs : s.size ≤ 1000) : Ev (fun k => gatepostref07_Parse.f k s) (toI (parseL s.data.toList)) := by
  unfold gatepostref07_Parse.f
  refine Ev.bind (parts_ref s hs) ?_
  have hz := len_data s
  have hp := partsL_length s.data.toList
  have hsz : ∀ q ∈ partsL s.data.toList, q.length ≤ 1000 := fun q hq => by have := partsL_part _ _ hq; omega
  unfold parseL
  generalize partsL s.data.toList = Q at hp hsz ⊢
  rw [List.length_map]
  by_cases h4 : Q.length ≤ 4
  · refine evN (by omega) ?_
    have h := parse_l0 Q hsz (by omega) (toI (ansN (joinN (Q.map fun p => (numL p).getD 0)))) (fun hall => ?_) Q.length 0 (Nat.zero_le _) rfl (by simp)
    · have e : (if Q.all (fun p => (numL p).isSome) = true then toI (ansN (joinN (Q.map fun p => (numL p).getD 0))) else (0, 2)) = toI (if Q.all (fun p => (numL p).isSome) = true ∧ Q.length ≤ 4 then ansN (joinN (Q.map fun p => (numL p).getD 0)) else (0, 2)) := by
        by_cases h1 : Q.all (fun p => (numL p).isSome) = true
        · rw [if_pos h1, if_pos ⟨h1, h4⟩]
        · rw [if_neg h1, if_neg (fun e => h1 e.1)]; rfl
      rw [e] at h
      exact h
    · have h1 := parse_l1 Q hsz (Q.length - 1) (by omega) (by omega) hall (Q.length - 1) 0 0 (by omega) rfl (by decide)
      rw [List.drop_zero] at h1
      have e : (if 256 ^ (4 - (Q.length - 1)) ≤ num4 (Q.getLastD []) then none else (addN (Q.map num4).dropLast 0 0).map (· + num4 (Q.getLastD []))) = joinN (Q.map fun p => (numL p).getD 0) := by
        show _ = joinN (Q.map num4)
        unfold joinN
        have el : (Q.map num4).getLastD 0 = num4 (Q.getLastD []) := by
          rw [List.getLastD_eq_getLast?, List.getLastD_eq_getLast?, List.getLast?_map]
          cases hq : Q.getLast? with
          | none => rw [List.getLast?_eq_none_iff] at hq; rw [hq] at hp; simp at hp
          | some p => rfl
        rw [el, List.length_map, show 4 - (Q.length - 1) = 5 - Q.length by omega, ← addN_add, Nat.zero_add]
      rw [e] at h1
      exact h1
  · rw [if_neg (fun e => h4 e.2)]
    exact evP (by omega) (Ev.now _)

/-! ### Ends -/
theorem ends_l0 (s : ByteArray) (hs : s.size ≤ 1000) : ∀ (d i : Nat) (b : Bool), i ≤ s.size → s.size - i = d → Ev (fun k => gatepostref07_Ends.l0 k s b i) ((b && (s.data.toList.drop i).all isFig) || (numL s.data.toList).isSome) := by
  intro d
  induction d with
  | zero =>
    intro i b hi hd
    have e2 : s.data.toList.drop i = [] := List.drop_of_length_le (by rw [len_data]; omega)
    rw [e2]
    refine Ev.step (f := fun k => if b = true then some true else (gatepostref07_number.f k s).bind fun t => some (decide (t ≥ 0))) (fun k => ?_) ?_
    · simp only [gatepostref07_Ends.l0]
      rw [if_neg (by omega)]
    · refine Ev.ite (fun h => by rw [h]; exact Ev.now _) (fun h => ?_)
      refine Ev.bind (number_ref s hs) ?_
      have hb : b = false := by simpa using h
      have : decide (numI (numL s.data.toList) ≥ 0) = ((b && ([] : List UInt8).all isFig) || (numL s.data.toList).isSome) := by
        rw [hb]
        cases numL s.data.toList with
        | none => rfl
        | some m => simp [numI]
      rw [this]
      exact Ev.now _
  | succ d ih =>
    intro i b hi hd
    obtain ⟨x, hx⟩ := byte_some (s := s) (i := i) (by omega)
    obtain ⟨hl, hg⟩ := List.getElem?_eq_some_iff.1 hx
    have hdr : s.data.toList.drop i = x :: s.data.toList.drop (i + 1) := by rw [List.drop_eq_getElem_cons hl, hg]
    have h := ih (i + 1) (b && isFig x) (by omega) (by omega)
    rw [hdr]
    have e : ((b && isFig x) && (s.data.toList.drop (i + 1)).all isFig) = (b && (x :: s.data.toList.drop (i + 1)).all isFig) := by rw [List.all_cons, Bool.and_assoc]
    rw [e] at h
    refine Ev.step (fun k => ?_) h
    simp only [gatepostref07_Ends.l0]
    rw [if_pos (by omega), wrap_in (by omega) (by omega)]
    by_cases hb : b = true
    · rw [if_pos hb, if_pos (by omega), bt_nat s i x hx, hb]
      unfold isFig
      by_cases h48 : (x.toNat : Int) ≥ 48
      · rw [if_pos h48]
        have : decide ((x.toNat : Int) ≤ 57) = (true && (decide (48 ≤ x.toNat) && decide (x.toNat ≤ 57))) := by
          rw [Bool.true_and, show decide (48 ≤ x.toNat) = true by simp; omega, Bool.true_and]
          exact decide_eq_decide.2 (by omega)
        rw [this]
        rfl
      · rw [if_neg h48]
        have : false = (true && (decide (48 ≤ x.toNat) && decide (x.toNat ≤ 57))) := by
          rw [Bool.true_and, show decide (48 ≤ x.toNat) = false by simp; omega, Bool.false_and]
        rw [← this]
        rfl
    · rw [if_neg hb]
      have : (b && isFig x) = false := by
        have : b = false := by simpa using hb
        rw [this]; rfl
      rw [this]
      rfl
theorem ends_ref (s : ByteArray) (hs : s.size ≤ 1000) : Ev (fun k => gatepostref07_Ends.f k s) (endsL s.data.toList) := by
  unfold gatepostref07_Ends.f
  refine Ev.bind (parts_ref s hs) ?_
  have hz := len_data s
  have hp := partsL_length s.data.toList
  have hat := last_at (d := []) hp.1
  have hlen := partsL_part _ _ (List.mem_of_getElem? hat)
  unfold endsL lastL
  generalize partsL s.data.toList = Q at hp hat hlen ⊢
  rw [List.length_map]
  have hw : wrap64 ((Q.length : Int) - 1) = ((Q.length - 1 : Nat) : Int) := by rw [wrap_in (by omega) (by omega)]; omega
  rw [hw, rdOf_map Q _ _ hat]
  refine evP (by omega) (evP (by omega) ?_)
  generalize Q.getLastD [] = x at hlen
  have h := ends_l0 (mkB x) (by rw [mkB_size]; omega) (mkB x).size 0 (decide (((mkB x).size : Int) > 0)) (Nat.zero_le _) rfl
  rw [mkB_data, List.drop_zero] at h
  have e : (decide (((mkB x).size : Int) > 0) && x.all isFig || (numL x).isSome) = ((numL x).isSome || (decide (x ≠ []) && x.all isFig)) := by
    rw [Bool.or_comm]
    congr 2
    rw [mkB_size]
    cases x <;> simp
  rw [e] at h
  exact h
end Go.Proofs.YtcclghpoodbdcaaGreatDoor
