/- What the reference of ipsix tells of numbers, pieces and lists: the same. What the reference of ipsix tells of quads, lists and pairs of colons: the same. The reference's Parse of ipsix, walked. The reference's Parse of ipsix, walked: with a pair of colons; the two joined. IpsixParses, walked: the address that any text is, or that it is none. -/
import Derived.Test.YtodpjdeffhbkpaaGreatDoorSixQuads
import Derived.Test.YtodpjdeffhbkpaaGreatDoorPureLib
import Derived.Test.YtodpjdeffhbkpaaGreatDoorPSixx3
import Derived.Test.YtodpjdeffhbkpaaGreatDoorPSixx1
import Derived.Test.YtodpjdeffhbkpaaGreatDoorSixText
import Derived.Test.YtodpjdeffhbkpaaGreatDoorResults
import Derived.Test.YtodpjdeffhbkpaaGreatDoorSixAwake
import Derived.Test.YtodpjdeffhbkpaaGreatDoorErrCode
set_option linter.unusedVariables false
set_option linter.unusedSimpArgs false
namespace Go.Proofs.YtodpjdeffhbkpaaGreatDoor.SixR
open Go.RowKit Go.Proofs.YtodpjdeffhbkpaaGreatDoorW.PrintWords Go.Proofs.YtodpjdeffhbkpaaGreatDoor.PSix Go.Proofs.YtodpjdeffhbkpaaGreatDoor.Plain Four Six

theorem evP {α : Type} {c : Prop} [Decidable c] {f g : Nat → Option α} {r : α} (h : c) (k : Ev f r) : Ev (fun n => if c then f n else g n) r := Ev.ite (fun _ => k) (fun e => absurd h e)
theorem evN {α : Type} {c : Prop} [Decidable c] {f g : Nat → Option α} {r : α} (h : ¬ c) (k : Ev g r) : Ev (fun n => if c then f n else g n) r := Ev.ite (fun e => absurd e h) (fun _ => k)
theorem byte_eq {c d : UInt8} : ((c.toNat : Int) = (d.toNat : Int)) ↔ c = d := ⟨fun h => UInt8.toNat_inj.1 (by omega), fun h => by rw [h]⟩

/-! ### Split -/
def consHead (cur : List UInt8) : List (List UInt8) → List (List UInt8)
  | [] => [cur]
  | p :: ps => (cur ++ p) :: ps
theorem consHead_nil {l : List (List UInt8)} (h : l ≠ []) : consHead [] l = l := by
  cases l with
  | nil => exact absurd rfl h
  | cons p ps => rfl
theorem extract_mk (s : ByteArray) (a b : Nat) : s.extract a b = mkB ((s.data.toList.take b).drop a) := by
  refine data_inj ?_
  rw [mkB_data, Lib.extract_data, List.drop_take]
theorem split_ev (s : ByteArray) (c : UInt8) (hs : s.size ≤ 1000) : ∀ (d i fr : Nat) (out : List ByteArray), i ≤ s.size → fr ≤ i → s.size - i = d → out.length ≤ i →
    Ev (fun k => gatepostref07_Split.l0 k s c.toNat out fr i) (out ++ (consHead ((s.data.toList.take i).drop fr) (splitL c (s.data.toList.drop i))).map mkB) := by
  intro d
  induction d with
  | zero =>
    intro i fr out hi hf hd ho
    have e : i = s.size := by omega
    have e2 : s.data.toList.drop i = [] := List.drop_of_length_le (by rw [len_data]; omega)
    rw [e2]
    refine Ev.step (f := fun k => gatepostref07_Split.l0 k s c.toNat (out ++ [s.extract fr i]) ((i : Int) + 1) ((i : Int) + 1)) (fun k => ?_) (Ev.step (f := fun _ => some _) (fun k => ?_) (Ev.now _))
    · simp only [gatepostref07_Split.l0]
      rw [if_pos (by omega), if_pos (by omega), if_pos (by omega), if_pos (by omega), if_pos (by omega), wrap_in (by omega) (by omega)]
      rfl
    · simp only [gatepostref07_Split.l0]
      rw [if_neg (by omega)]
      rw [extract_mk]
      simp [consHead, splitL]
  | succ d ih =>
    intro i fr out hi hf hd ho
    obtain ⟨x, hx⟩ := byte_some (s := s) (i := i) (by omega)
    obtain ⟨hl, hg⟩ := List.getElem?_eq_some_iff.1 hx
    have hdr : s.data.toList.drop i = x :: s.data.toList.drop (i + 1) := by rw [List.drop_eq_getElem_cons hl, hg]
    have htk : s.data.toList.take (i + 1) = s.data.toList.take i ++ [x] := by rw [List.take_succ_eq_append_getElem hl, hg]
    have hxc : ((x.toNat : Int) = (c.toNat : Int)) ↔ x = c := ⟨fun h => UInt8.toNat_inj.1 (by omega), fun h => by rw [h]⟩
    rw [hdr]
    by_cases e : x = c
    · have h := ih (i + 1) (i + 1) (out ++ [s.extract fr i]) (by omega) (Nat.le_refl _) (by omega) (by simp; omega)
      refine Ev.step (f := fun k => gatepostref07_Split.l0 k s c.toNat (out ++ [s.extract fr i]) ((i + 1 : Nat) : Int) ((i + 1 : Nat) : Int)) (fun k => ?_) ?_
      · simp only [gatepostref07_Split.l0]
        rw [if_pos (by omega), if_neg (by omega), if_pos (by omega), if_pos (by omega), bt_nat s i x hx, if_pos (hxc.2 e), if_pos (by omega), if_pos (by omega), if_pos (by omega), wrap_in (by omega) (by omega)]
        rfl
      · have hz : (s.data.toList.take (i + 1)).drop (i + 1) = [] := List.drop_of_length_le (by rw [List.length_take]; omega)
        rw [hz, consHead_nil (splitL_ne _ _)] at h
        subst e
        rw [splitL_eq]
        rw [extract_mk] at h
        simpa [consHead, extract_mk] using h
    · have h := ih (i + 1) fr out (by omega) (by omega) (by omega) (by omega)
      refine Ev.step (f := fun k => gatepostref07_Split.l0 k s c.toNat out fr ((i + 1 : Nat) : Int)) (fun k => ?_) ?_
      · simp only [gatepostref07_Split.l0]
        rw [if_pos (by omega), if_neg (by omega), if_pos (by omega), if_pos (by omega), bt_nat s i x hx, if_neg (fun h => e (hxc.1 h)), wrap_in (by omega) (by omega)]
        rfl
      · rw [htk, List.drop_append_of_le_length (by rw [List.length_take, len_data]; omega)] at h
        have hne := splitL_ne c (s.data.toList.drop (i + 1))
        cases hsp : splitL c (s.data.toList.drop (i + 1)) with
        | nil => exact absurd hsp hne
        | cons p ps =>
          rw [splitL_step e hsp]
          rw [hsp] at h
          simpa [consHead] using h
theorem split_ref (s : ByteArray) (c : UInt8) (hs : s.size ≤ 1000) : Ev (fun k => gatepostref07_Split.f k s c.toNat) ((splitL c s.data.toList).map mkB) := by
  have h := split_ev s c hs s.size 0 0 [] (Nat.zero_le _) (Nat.le_refl _) rfl (Nat.le_refl _)
  simp only [List.drop_zero, List.take_zero] at h
  rw [consHead_nil (splitL_ne _ _), List.nil_append] at h
  exact h
theorem rdOf_map (l : List (List UInt8)) (i : Nat) (x : List UInt8) (h : l[i]? = some x) : rdOf ByteArray.empty (l.map mkB) (i : Int) = mkB x := by
  simp [rdOf, List.getD_eq_getElem?_getD, h]

def numI : Option Nat → Int
  | some n => n
  | none => -1
theorem value_ref (c : UInt8) : Ev (fun k => gatepostref03_Value.f k c.toNat) (if figure c = 99 then -1 else (figure c : Int)) := by
  have hc := c.toNat_lt
  have hf : figure c = if 48 ≤ c.toNat ∧ c.toNat ≤ 57 then c.toNat - 48 else if 97 ≤ c.toNat ∧ c.toNat ≤ 102 then c.toNat - 87 else if 65 ≤ c.toNat ∧ c.toNat ≤ 70 then c.toNat - 55 else 99 := rfl
  rw [hf]
  generalize c.toNat = n at hc ⊢
  unfold gatepostref03_Value.f
  have j0 : ∀ b, Ev (fun k => gatepostref03_Value.j0 k (n : Int) b) (if b = true then (n : Int) - 48 else if 65 ≤ n ∧ n ≤ 70 then (n : Int) - 55 else if 97 ≤ n ∧ n ≤ 102 then (n : Int) - 87 else -1) := fun b => by
    refine Ev.step (f := fun k => if b = true then some ((n : Int) - 48) else if (n : Int) ≥ 65 then gatepostref03_Value.j1 k n (decide ((n : Int) ≤ 70)) else gatepostref03_Value.j1 k n false) (fun k => ?_) ?_
    · simp only [gatepostref03_Value.j0]
      rw [wrap_in (x := (n : Int)) (by omega) (by omega), wrap_in (by omega) (by omega)]
    · have j1 : ∀ b, Ev (fun k => gatepostref03_Value.j1 k (n : Int) b) (if b = true then (n : Int) - 55 else if 97 ≤ n ∧ n ≤ 102 then (n : Int) - 87 else -1) := fun b => by
        refine Ev.step (f := fun k => if b = true then some ((n : Int) - 55) else if (n : Int) ≥ 97 then (if (n : Int) ≤ 102 then some ((n : Int) - 87) else some (-1)) else some (-1)) (fun k => ?_) ?_
        · simp only [gatepostref03_Value.j1]
          rw [wrap_in (x := (n : Int)) (by omega) (by omega), wrap_in (x := (n : Int) - 65) (by omega) (by omega), wrap_in (x := (n : Int) - 97) (by omega) (by omega), wrap_in (x := (n : Int) - 65 + 10) (by omega) (by omega), wrap_in (x := (n : Int) - 97 + 10) (by omega) (by omega)]
          rw [show (n : Int) - 65 + 10 = (n : Int) - 55 by omega, show (n : Int) - 97 + 10 = (n : Int) - 87 by omega]
        · refine Ev.ite (fun h => by rw [if_pos h]; exact Ev.now _) (fun h => ?_)
          rw [if_neg h]
          refine Ev.ite (fun h1 => Ev.ite (fun h2 => ?_) (fun h2 => ?_)) (fun h1 => ?_)
          · rw [if_pos (by omega)]; exact Ev.now _
          · rw [if_neg (by omega)]; exact Ev.now _
          · rw [if_neg (by omega)]; exact Ev.now _
      refine Ev.ite (fun h => by rw [if_pos h]; exact Ev.now _) (fun h => ?_)
      rw [if_neg h]
      refine Ev.ite (fun h1 => ?_) (fun h1 => ?_)
      · have := j1 (decide ((n : Int) ≤ 70))
        by_cases h2 : (n : Int) ≤ 70
        · rw [if_pos (by simpa using h2)] at this
          rw [if_pos (by omega)]
          exact this
        · rw [if_neg (by simpa using h2)] at this
          rw [if_neg (by omega)]
          exact this
      · have := j1 false
        rw [if_neg (by simp)] at this
        rw [if_neg (by omega)]
        exact this
  refine Ev.ite (fun h => ?_) (fun h => ?_)
  · have := j0 (decide ((n : Int) ≤ 57))
    by_cases h2 : (n : Int) ≤ 57
    · rw [if_pos (by simpa using h2)] at this
      rw [if_pos (show 48 ≤ n ∧ n ≤ 57 by omega)]
      rw [if_neg (by omega)]
      rw [show ((n - 48 : Nat) : Int) = (n : Int) - 48 by omega]
      exact this
    · rw [if_neg (by simpa using h2)] at this
      rw [if_neg (show ¬ (48 ≤ n ∧ n ≤ 57) by omega)]
      by_cases h3 : 65 ≤ n ∧ n ≤ 70
      · rw [if_pos h3] at this
        rw [if_neg (show ¬ (97 ≤ n ∧ n ≤ 102) by omega), if_pos h3, if_neg (by omega), show ((n - 55 : Nat) : Int) = (n : Int) - 55 by omega]
        exact this
      · rw [if_neg h3] at this
        by_cases h4 : 97 ≤ n ∧ n ≤ 102
        · rw [if_pos h4] at this
          rw [if_pos h4, if_neg (by omega), show ((n - 87 : Nat) : Int) = (n : Int) - 87 by omega]
          exact this
        · rw [if_neg h4] at this
          rw [if_neg h4, if_neg h3, if_pos rfl]
          exact this
  · have := j0 false
    rw [if_neg (by simp), if_neg (by omega), if_neg (by omega)] at this
    rw [if_neg (show ¬ (48 ≤ n ∧ n ≤ 57) by omega), if_neg (show ¬ (97 ≤ n ∧ n ≤ 102) by omega), if_neg (show ¬ (65 ≤ n ∧ n ≤ 70) by omega), if_pos rfl]
    exact this

/-! ### A piece's value -/
theorem value_l0 (s : ByteArray) (hs : s.size ≤ 4) (h1 : 1 ≤ s.size) : ∀ (d i n : Nat), i ≤ s.size → s.size - i = d → n + 1 ≤ 16 ^ i →
    Ev (fun k => gatepostref08_value.l0 k s n i) (if (s.data.toList.drop i).all isHex = true then (hexV (s.data.toList.drop i) n : Int) else -1) := by
  intro d
  induction d with
  | zero =>
    intro i n hi hd hn
    have e2 : s.data.toList.drop i = [] := List.drop_of_length_le (by rw [len_data]; omega)
    rw [e2]
    refine Ev.step (f := fun _ => some _) (fun k => ?_) (Ev.now _)
    simp only [gatepostref08_value.l0]
    rw [if_neg (by omega), if_neg (by omega)]
    rfl
  | succ d ih =>
    intro i n hi hd hn
    obtain ⟨x, hx⟩ := byte_some (s := s) (i := i) (by omega)
    obtain ⟨hl, hg⟩ := List.getElem?_eq_some_iff.1 hx
    have hdr : s.data.toList.drop i = x :: s.data.toList.drop (i + 1) := by rw [List.drop_eq_getElem_cons hl, hg]
    have hv := value_ref x
    have hp : (16 : Nat) ^ i ≤ 16 ^ 4 := Nat.pow_le_pow_right (by decide) (by omega)
    have hp4 : (16 : Nat) ^ 4 = 65536 := by decide
    rw [hdr]
    refine Ev.step (f := fun k => (gatepostref03_Value.f k x.toNat).bind fun t => if t < 0 then some (-1) else if (s.size : Int) > 4 then some (-1) else gatepostref08_value.l0 k s (wrap64 (wrap64 (16 * (n : Int)) + t)) (wrap64 ((i : Int) + 1))) (fun k => ?_) (Ev.bind hv ?_)
    · simp only [gatepostref08_value.l0]
      rw [if_pos (by omega), if_pos (by omega), bt_nat s i x hx]
    · by_cases h99 : figure x = 99
      · rw [if_pos h99, if_neg (by simp [isHex, h99])]
        exact evP (by decide) (Ev.now _)
      · have hfl : figure x < 16 := by
          have h := h99
          unfold figure at h ⊢
          split
          · omega
          · split
            · omega
            · split
              · omega
              · rename_i h1 h2 h3
                rw [if_neg h1, if_neg h2, if_neg h3] at h
                exact absurd rfl h
        rw [if_neg h99]
        refine evN (by omega) (evN (by omega) ?_)
        have h := ih (i + 1) (n * 16 + figure x) (by omega) (by omega) (by rw [Nat.pow_succ]; omega)
        rw [wrap_in (x := 16 * (n : Int)) (by omega) (by omega), wrap_in (x := 16 * (n : Int) + (figure x : Int)) (by omega) (by omega), wrap_in (x := (i : Int) + 1) (by omega) (by omega)]
        have e1 : 16 * (n : Int) + (figure x : Int) = ((n * 16 + figure x : Nat) : Int) := by omega
        have e2 : (i : Int) + 1 = ((i + 1 : Nat) : Int) := by omega
        rw [e1, e2]
        have ea : (x :: s.data.toList.drop (i + 1)).all isHex = (s.data.toList.drop (i + 1)).all isHex := by
          rw [List.all_cons, show isHex x = true by simpa [isHex] using hfl, Bool.true_and]
        rw [ea]
        exact h
theorem val_ref (s : ByteArray) : Ev (fun k => gatepostref08_value.f k s) (numI (pieceL s.data.toList)) := by
  unfold gatepostref08_value.f
  have hz := len_data s
  by_cases h0 : s.size = 0
  · have : pieceL s.data.toList = none := by unfold pieceL; rw [if_neg (by omega)]
    rw [this]
    refine Ev.step (f := fun _ => some _) (fun k => ?_) (Ev.now _)
    simp only [gatepostref08_value.l0]
    rw [if_neg (by omega), if_pos (by omega)]
    rfl
  · by_cases h4 : s.size ≤ 4
    · have h := value_l0 s h4 (by omega) s.size 0 0 (Nat.zero_le _) rfl (by decide)
      rw [List.drop_zero] at h
      unfold pieceL
      by_cases ha : s.data.toList.all isHex = true
      · rw [if_pos ha] at h
        rw [if_pos ⟨by omega, by omega, ha⟩]
        exact h
      · rw [if_neg ha] at h
        rw [if_neg (fun e => ha e.2.2)]
        exact h
    · have : pieceL s.data.toList = none := by unfold pieceL; rw [if_neg (by omega)]
      rw [this]
      obtain ⟨x, hx⟩ := byte_some (s := s) (i := 0) (by omega)
      have hv := value_ref x
      refine Ev.step (f := fun k => (gatepostref03_Value.f k x.toNat).bind fun t => if t < 0 then some (-1) else if (s.size : Int) > 4 then some (-1) else gatepostref08_value.l0 k s (wrap64 (wrap64 (16 * (0 : Int)) + t)) (wrap64 ((0 : Int) + 1))) (fun k => ?_) (Ev.bind hv ?_)
      · simp only [gatepostref08_value.l0]
        have hb := bt_nat s 0 x hx
        have hb' : bt s 0 = (x.toNat : Int) := hb
        rw [if_pos (by omega), if_pos (by omega), hb']
      · by_cases h99 : figure x = 99
        · rw [if_pos h99]
          exact evP (by decide) (Ev.now _)
        · rw [if_neg h99]
          exact evN (by omega) (evP (by omega) (Ev.now _))

/-! ### A quad's number -/
def decV : List UInt8 → Nat → Nat
  | [], n => n
  | c :: l, n => decV l (n * 10 + (c.toNat - 48))
theorem decV_ge : ∀ (l : List UInt8) (n : Nat), n * 10 ^ l.length ≤ decV l n
  | [], n => by simp [decV]
  | c :: l, n => by
    unfold decV
    have := decV_ge l (n * 10 + (c.toNat - 48))
    rw [List.length_cons, Nat.pow_succ]
    have h2 : n * 10 * 10 ^ l.length ≤ (n * 10 + (c.toNat - 48)) * 10 ^ l.length := Nat.mul_le_mul_right _ (by omega)
    have h3 : n * (10 ^ l.length * 10) = n * 10 * 10 ^ l.length := by rw [Nat.mul_assoc, Nat.mul_comm 10]
    omega
theorem decV_le (l : List UInt8) (n : Nat) : n ≤ decV l n := Nat.le_trans (Nat.le_mul_of_pos_right n (Nat.pow_pos (by decide))) (decV_ge l n)
theorem pm_is : ∀ (l : List UInt8) (acc : Nat), acc ≤ 255 → (match Go.Lib.parseUintM 255 acc l with | .ok u => some u | _ => none) = if l.all isFig = true ∧ decV l acc ≤ 255 then some (decV l acc) else none
  | [], acc, h => by simp [Go.Lib.parseUintM, decV, h]
  | c :: l, acc, h => by
    unfold Go.Lib.parseUintM
    by_cases hc : 48 ≤ c.toNat ∧ c.toNat ≤ 57
    · have hf : isFig c = true := by unfold isFig; simp [hc]
      rw [if_pos hc, if_neg (by omega)]
      by_cases ho : 255 < acc * 10 + (c.toNat - 48)
      · rw [if_pos ho, if_neg]
        rintro ⟨_, h2⟩
        have := decV_le l (acc * 10 + (c.toNat - 48))
        have h3 : decV (c :: l) acc = decV l (acc * 10 + (c.toNat - 48)) := rfl
        omega
      · rw [if_neg ho, pm_is l _ (by omega), List.all_cons, hf, Bool.true_and]
        rfl
    · have hf : isFig c = false := by
        unfold isFig
        rw [Bool.and_eq_false_iff]
        simp only [decide_eq_false_iff_not]
        omega
      rw [if_neg hc, if_neg (by rw [List.all_cons, hf]; simp)]
theorem small_is (l : List UInt8) : smallL l = if l ≠ [] ∧ l.all isFig = true ∧ decV l 0 ≤ 255 ∧ ¬ (1 < l.length ∧ l.head? = some 48) then some (decV l 0) else none := by
  unfold smallL Go.Lib.parseUintB
  by_cases h0 : l = []
  · subst h0
    simp
  · rw [if_neg h0]
    have e : 2 ^ 8 - 1 = 255 := by decide
    rw [e]
    have h := pm_is l 0 (by omega)
    cases hp : Go.Lib.parseUintM 255 0 l with
    | ok u =>
      rw [hp] at h
      simp only at h ⊢
      by_cases hc : l.all isFig = true ∧ decV l 0 ≤ 255
      · rw [if_pos hc] at h
        obtain rfl := Option.some.inj h
        by_cases hz : 1 < l.length ∧ l.head? = some 48
        · rw [if_pos hz, if_neg (fun e => e.2.2.2 hz)]
        · rw [if_neg hz, if_pos ⟨h0, hc.1, hc.2, hz⟩]
      · rw [if_neg hc] at h
        cases h
    | _ =>
      rw [hp] at h
      simp only at h ⊢
      rw [if_neg]
      intro e
      rw [if_pos ⟨e.2.1, e.2.2.1⟩] at h
      cases h
theorem small_long {l : List UInt8} (h : 3 < l.length) : smallL l = none := by
  rw [small_is, if_neg]
  rintro ⟨h0, ha, hd, hz⟩
  match l, h0 with
  | c :: r, _ =>
    have hc : c ≠ 48 := fun e => hz ⟨by simp at h ⊢; omega, by rw [e]; rfl⟩
    rw [List.all_cons, Bool.and_eq_true] at ha
    have hf := ha.1
    unfold isFig at hf
    simp only [Bool.and_eq_true, decide_eq_true_eq] at hf
    have hc2 : c.toNat ≠ 48 := fun e => hc (UInt8.toNat_inj.1 e)
    have h1 : decV (c :: r) 0 = decV r (0 * 10 + (c.toNat - 48)) := rfl
    have h2 := decV_ge r (0 * 10 + (c.toNat - 48))
    have h3 : 10 ^ 3 ≤ 10 ^ r.length := Nat.pow_le_pow_right (by decide) (by simp at h; omega)
    have h4 : 1 * 10 ^ r.length ≤ (0 * 10 + (c.toNat - 48)) * 10 ^ r.length := Nat.mul_le_mul_right _ (by omega)
    omega
theorem sm_l0 (s : ByteArray) (hs : s.size ≤ 3) (h1 : 1 ≤ s.size) (hz : ¬ (1 < s.size ∧ s.data.toList.head? = some 48)) : ∀ (d i n : Nat), i ≤ s.size → s.size - i = d → n + 1 ≤ 10 ^ i →
    Ev (fun k => gatepostref08_small.l0 k s n i) (if (s.data.toList.drop i).all isFig = true ∧ decV (s.data.toList.drop i) n ≤ 255 then (decV (s.data.toList.drop i) n : Int) else -1) := by
  intro d
  induction d with
  | zero =>
    intro i n hi hd hn
    have e2 : s.data.toList.drop i = [] := List.drop_of_length_le (by rw [len_data]; omega)
    rw [e2]
    refine Ev.step (f := fun _ => some _) (fun k => ?_) (Ev.now _)
    simp only [gatepostref08_small.l0]
    rw [if_neg (by omega), if_neg (by omega)]
    have hd0 : decV [] n = n := rfl
    by_cases h : n ≤ 255
    · rw [if_neg (by omega), if_pos ⟨rfl, by rw [hd0]; exact h⟩, hd0]
    · rw [if_pos (by omega), if_neg (fun e => h (by have := e.2; rwa [hd0] at this))]
  | succ d ih =>
    intro i n hi hd hn
    obtain ⟨x, hx⟩ := byte_some (s := s) (i := i) (by omega)
    obtain ⟨hl, hg⟩ := List.getElem?_eq_some_iff.1 hx
    have hdr : s.data.toList.drop i = x :: s.data.toList.drop (i + 1) := by rw [List.drop_eq_getElem_cons hl, hg]
    have hp : (10 : Nat) ^ i ≤ 10 ^ 3 := Nat.pow_le_pow_right (by decide) (by omega)
    have hp4 : (10 : Nat) ^ 3 = 1000 := by decide
    have hx255 := x.toNat_lt
    rw [hdr]
    by_cases hf : isFig x = true
    · have hf2 := hf
      unfold isFig at hf2
      simp only [Bool.and_eq_true, decide_eq_true_eq] at hf2
      have h := ih (i + 1) (n * 10 + (x.toNat - 48)) (by omega) (by omega) (by rw [Nat.pow_succ]; omega)
      rw [List.all_cons, hf, Bool.true_and]
      refine Ev.step (fun k => ?_) h
      simp only [gatepostref08_small.l0]
      rw [if_pos (by omega), if_pos (by omega), bt_nat s i x hx, if_neg (by omega), if_neg (by omega), if_neg (by omega)]
      rw [wrap_in (x := 10 * (n : Int)) (by omega) (by omega), wrap_in (x := ((x.toNat : Nat) : Int)) (by omega) (by omega), wrap_in (x := 10 * (n : Int) + (x.toNat : Int)) (by omega) (by omega), wrap_in (x := 10 * (n : Int) + (x.toNat : Int) - 48) (by omega) (by omega), wrap_in (x := (i : Int) + 1) (by omega) (by omega)]
      have e1 : 10 * (n : Int) + (x.toNat : Int) - 48 = ((n * 10 + (x.toNat - 48) : Nat) : Int) := by omega
      have e2 : (i : Int) + 1 = ((i + 1 : Nat) : Int) := by omega
      rw [e1, e2]
      by_cases hs1 : (s.size : Int) > 1
      · obtain ⟨y, hy⟩ := byte_some (s := s) (i := 0) (by omega)
        have hb : bt s 0 = (y.toNat : Int) := bt_nat s 0 y hy
        rw [if_pos hs1, if_pos (by omega), hb, if_neg]
        intro e
        have : y = 48 := UInt8.toNat_inj.1 (by have : (48 : UInt8).toNat = 48 := rfl; omega)
        exact hz ⟨by omega, by rw [List.head?_eq_getElem?, hy, this]⟩
      · rw [if_neg hs1]
    · rw [if_neg (by rw [List.all_cons]; simp [hf])]
      have hf2 : ¬ (48 ≤ x.toNat ∧ x.toNat ≤ 57) := fun e => hf (by unfold isFig; simp [e])
      refine Ev.step (f := fun _ => some _) (fun k => ?_) (Ev.now _)
      simp only [gatepostref08_small.l0]
      rw [if_pos (by omega), if_pos (by omega), bt_nat s i x hx]
      by_cases h48 : (x.toNat : Int) < 48
      · rw [if_pos h48]
      · rw [if_neg h48, if_pos (by omega)]
theorem sm_ref (s : ByteArray) (hs : s.size ≤ 1000) : Ev (fun k => gatepostref08_small.f k s) (numI (smallL s.data.toList)) := by
  unfold gatepostref08_small.f
  have hz := len_data s
  by_cases h0 : s.size = 0
  · have : smallL s.data.toList = none := by
      rw [small_is, if_neg]
      rintro ⟨h, _⟩
      exact h (List.length_eq_zero_iff.1 (by omega))
    rw [this]
    refine Ev.step (f := fun _ => some _) (fun k => ?_) (Ev.now _)
    simp only [gatepostref08_small.l0]
    rw [if_neg (by omega), if_pos (by omega)]
    rfl
  · obtain ⟨x, hx⟩ := byte_some (s := s) (i := 0) (by omega)
    have hb : bt s 0 = (x.toNat : Int) := bt_nat s 0 x hx
    by_cases hq : s.size ≤ 3 ∧ ¬ (1 < s.size ∧ s.data.toList.head? = some 48)
    · have h := sm_l0 s hq.1 (by omega) hq.2 s.size 0 0 (Nat.zero_le _) rfl (by decide)
      rw [List.drop_zero] at h
      rw [small_is]
      have hne : s.data.toList ≠ [] := fun e => h0 (by rw [← hz, e]; rfl)
      by_cases ha : s.data.toList.all isFig = true ∧ decV s.data.toList 0 ≤ 255
      · rw [if_pos ha] at h
        rw [if_pos ⟨hne, ha.1, ha.2, by rw [hz]; exact hq.2⟩]
        exact h
      · rw [if_neg ha] at h
        rw [if_neg (fun e => ha ⟨e.2.1, e.2.2.1⟩)]
        exact h
    · have : smallL s.data.toList = none := by
        by_cases h3 : s.size ≤ 3
        · rw [small_is, if_neg]
          rintro ⟨_, _, _, h⟩
          rw [hz] at h
          exact hq ⟨h3, h⟩
        · exact small_long (by omega)
      rw [this]
      refine Ev.step (f := fun _ => some _) (fun k => ?_) (Ev.now _)
      simp only [gatepostref08_small.l0]
      rw [if_pos (by omega), if_pos (by omega), hb]
      by_cases c1 : (x.toNat : Int) < 48
      · rw [if_pos c1]; rfl
      · rw [if_neg c1]
        by_cases c2 : (x.toNat : Int) > 57
        · rw [if_pos c2]; rfl
        · rw [if_neg c2]
          by_cases c3 : (s.size : Int) > 3
          · rw [if_pos c3]; rfl
          · rw [if_neg c3]
            have hh : 1 < s.size ∧ s.data.toList.head? = some 48 := by
              by_cases e : 1 < s.size ∧ s.data.toList.head? = some 48
              · exact e
              · exact absurd ⟨by omega, e⟩ hq
            have hx48 : x = 48 := by
              have := hh.2
              rw [List.head?_eq_getElem?, hx] at this
              exact Option.some.inj this
            rw [if_pos (by omega), if_pos (by omega), if_pos (by rw [hx48]; rfl)]
            rfl
end Go.Proofs.YtodpjdeffhbkpaaGreatDoor.SixR

namespace Go.Proofs.YtodpjdeffhbkpaaGreatDoor.SixR
open Go.RowKit Go.Proofs.YtodpjdeffhbkpaaGreatDoorW.PrintWords Go.Proofs.YtodpjdeffhbkpaaGreatDoor.PSix Go.Proofs.YtodpjdeffhbkpaaGreatDoor.Plain Four Six

/-! ### A quad -/
def quadI : Option (Nat × Nat) → List Int
  | some q => [(q.1 : Int), (q.2 : Int)]
  | none => []
theorem numI_neg {o : Option Nat} : numI o < 0 ↔ o = none := by
  cases o with
  | none => simp [numI]
  | some n => simp [numI]
theorem quad_go (L : List (List UInt8)) (p q : List UInt8) (i : Nat) (out R : List Int) (hi : i < 4) (hL : L.length = 4) (ho : out.length ≤ 4) (hp : L[i]? = some p) (hq : L[i + 1]? = some q) (hps : p.length ≤ 1000) (hqs : q.length ≤ 1000)
    (hok : ∀ x y, smallL p = some x → smallL q = some y → Ev (fun k => gatepostref08_quad.l0 k (L.map mkB) (out ++ [((256 * x + y : Nat) : Int)]) ((i + 2 : Nat) : Int)) R)
    (hno : smallL p = none ∨ smallL q = none → R = []) : Ev (fun k => gatepostref08_quad.l0 k (L.map mkB) out i) R := by
  have hi1 : i + 1 < 4 := by have := (List.getElem?_eq_some_iff.1 hq).1; omega
  have hP := sm_ref (mkB p) (by rw [mkB_size]; exact hps)
  have hQ := sm_ref (mkB q) (by rw [mkB_size]; exact hqs)
  rw [mkB_data] at hP hQ
  have e1 : rdOf ByteArray.empty (L.map mkB) (i : Int) = mkB p := rdOf_map L i p hp
  have e2 : rdOf ByteArray.empty (L.map mkB) (((i + 1 : Nat)) : Int) = mkB q := rdOf_map L (i + 1) q hq
  have ew : wrap64 ((i : Int) + 1) = ((i + 1 : Nat) : Int) := by rw [wrap_in (by omega) (by omega)]; omega
  have ew2 : wrap64 ((i : Int) + 2) = ((i + 2 : Nat) : Int) := by rw [wrap_in (by omega) (by omega)]; omega
  have hl : ((L.map mkB).length : Int) = 4 := by rw [List.length_map, hL]; rfl
  have hnil : Ev (fun k => gatepostref08_quad.j1 k (L.map mkB) out i true) [] := by
    refine Ev.step (f := fun _ => some _) (fun k => ?_) (Ev.now _)
    simp only [gatepostref08_quad.j1]
    rfl
  refine Ev.step (f := fun k => (gatepostref08_small.f k (mkB p)).bind fun t => if t < 0 then gatepostref08_quad.j1 k (L.map mkB) out i true else (gatepostref08_small.f k (mkB q)).bind fun t2 => gatepostref08_quad.j1 k (L.map mkB) out i (decide (t2 < 0))) (fun k => ?_) (Ev.bind hP ?_)
  · simp only [gatepostref08_quad.l0]
    rw [if_pos (by omega), if_pos (by omega), if_pos (by omega), e1, ew, if_pos (by omega), if_pos (by omega), e2]
  · cases hsp : smallL p with
    | none =>
      rw [hno (.inl hsp)]
      exact evP (by decide) hnil
    | some x =>
      rw [hsp] at hP
      have hx := (small_ok hsp).1
      refine evN (by simp [numI]) (Ev.bind hQ ?_)
      cases hsq : smallL q with
      | none =>
        rw [hno (.inr hsq)]
        exact hnil
      | some y =>
        rw [hsq] at hQ
        have hy := (small_ok hsq).1
        have hd : decide (numI (some y) < 0) = false := decide_eq_false (fun h => by have := numI_neg.1 h; cases this)
        rw [hd]
        refine Ev.step (f := fun k => (gatepostref08_small.f k (mkB p)).bind fun t => (gatepostref08_small.f k (mkB q)).bind fun t2 => gatepostref08_quad.l0 k (L.map mkB) (out ++ [IntKind.u16.wrap (wrap64 ((wrap64 (256 * t)) + t2))]) ((i + 2 : Nat) : Int)) (fun k => ?_) (Ev.bind hP (Ev.bind hQ ?_))
        · simp only [gatepostref08_quad.j1]
          have b1 : (0 : Int) ≤ ((i + 1 : Nat) : Int) := by omega
          have b2 : ((i + 1 : Nat) : Int) < ((L.map mkB).length : Int) := by omega
          have b3 : out.length < 70368744177664 := by omega
          rw [if_neg (by simp), if_pos (by omega), if_pos (by omega), e1, ew]
          simp only [if_pos b1, if_pos b2, if_pos b3, e2, ew2]
        · have h := hok x y hsp hsq
          have e : IntKind.u16.wrap (wrap64 (wrap64 (256 * numI (some x)) + numI (some y))) = ((256 * x + y : Nat) : Int) := by
            show IntKind.u16.wrap (wrap64 (wrap64 (256 * (x : Int)) + (y : Int))) = _
            rw [wrap_in (x := 256 * (x : Int)) (by omega) (by omega), wrap_in (x := 256 * (x : Int) + (y : Int)) (by omega) (by omega), IntKind.wrap_u16]
            omega
          rw [e]
          exact h
theorem quad_ref (s : ByteArray) (hs : s.size ≤ 1000) : Ev (fun k => gatepostref08_quad.f k s) (quadI (quadL s.data.toList)) := by
  unfold gatepostref08_quad.f
  have h46 : (46 : Int) = ((46 : UInt8).toNat : Int) := rfl
  rw [h46]
  refine Ev.bind (split_ref s 46 hs) ?_
  have hz := len_data s
  have hpart := fun p hp => splitL_part 46 s.data.toList p hp
  unfold quadL
  generalize splitL 46 s.data.toList = L at hpart ⊢
  by_cases h4 : L.length = 4
  · refine evP (by rw [List.length_map, h4]; rfl) ?_
    match L, h4 with
    | [a, b, c, d], h4 =>
      have ha := hpart a (by simp)
      have hb := hpart b (by simp)
      have hc := hpart c (by simp)
      have hd := hpart d (by simp)
      refine quad_go [a, b, c, d] a b 0 [] _ (by decide) rfl (by simp) rfl rfl (by omega) (by omega) (fun x y hx hy => ?_) (fun h => ?_)
      · refine quad_go [a, b, c, d] c d 2 _ _ (by decide) rfl (by simp) rfl rfl (by omega) (by omega) (fun z u hz hu => ?_) (fun h => ?_)
        · refine Ev.step (f := fun _ => some _) (fun k => ?_) (Ev.now _)
          simp only [gatepostref08_quad.l0]
          rw [if_neg (by decide)]
          simp only [quadP, hx, hy, hz, hu, quadI]
          rfl
        · simp only [quadP, hx, hy]
          rcases h with h | h
          · rw [h]; rfl
          · rw [h]
            cases smallL c <;> rfl
      · simp only [quadP]
        rcases h with h | h
        · rw [h]; rfl
        · rw [h]
          cases smallL a <;> rfl
  · refine evN (by rw [List.length_map]; omega) ?_
    have : quadP L = none := by
      unfold quadP
      split
      · exact absurd rfl h4
      · rfl
    rw [this]
    exact Ev.now _

/-! ### A list of pieces -/
def resL (out : List Int) : Option (List Nat) → List Int × Bool
  | some y => (out ++ y.map fun (n : Nat) => (n : Int), true)
  | none => ([], false)
theorem resL_step (last : Bool) (out : List Int) (p : List UInt8) (ps : List (List UInt8)) : resL out (walkL last (p :: ps)) = match pieceP p (last && ps.isEmpty) with
    | some x => resL (out ++ x.map fun (n : Nat) => (n : Int)) (walkL last ps)
    | none => ([], false) := by
  conv => lhs; unfold walkL
  cases pieceP p (last && ps.isEmpty) with
  | none => rfl
  | some x =>
    simp only
    cases walkL last ps with
    | none => rfl
    | some y => simp [resL]
theorem list_l0 (L : List (List UInt8)) (last : Bool) (hL : L.length ≤ 1001) (hpart : ∀ p ∈ L, p.length ≤ 1000) : ∀ (d i : Nat) (out : List Int), i ≤ L.length → L.length - i = d → out.length ≤ 2 * i →
    Ev (fun k => gatepostref08_list.l0 k last out (L.map mkB) i) (resL out (walkL last (L.drop i))) := by
  intro d
  induction d with
  | zero =>
    intro i out hi hd ho
    have e2 : L.drop i = [] := List.drop_of_length_le (by omega)
    rw [e2]
    refine Ev.step (f := fun _ => some _) (fun k => ?_) (Ev.now _)
    simp only [gatepostref08_list.l0]
    rw [if_neg (by rw [List.length_map]; omega)]
    simp [walkL, resL]
  | succ d ih =>
    intro i out hi hd ho
    have hl : i < L.length := by omega
    obtain ⟨p, hp⟩ : ∃ p, L[i]? = some p := ⟨L[i], List.getElem?_eq_getElem hl⟩
    have hdr : L.drop i = p :: L.drop (i + 1) := by rw [List.drop_eq_getElem_cons hl, (List.getElem?_eq_some_iff.1 hp).2]
    have hps := hpart p (List.mem_of_getElem? hp)
    have hQ := quad_ref (mkB p) (by rw [mkB_size]; exact hps)
    have hV := val_ref (mkB p)
    rw [mkB_data] at hQ hV
    have e1 : rdOf ByteArray.empty (L.map mkB) (i : Int) = mkB p := rdOf_map L i p hp
    have ew : wrap64 ((i : Int) + 1) = ((i + 1 : Nat) : Int) := by rw [wrap_in (by omega) (by omega)]; omega
    have ewl : wrap64 (((L.map mkB).length : Int) - 1) = ((L.length - 1 : Nat) : Int) := by rw [List.length_map, wrap_in (by omega) (by omega)]; omega
    have hem : (L.drop (i + 1)).isEmpty = decide (i = L.length - 1) := by
      rw [Bool.eq_iff_iff, List.isEmpty_iff, List.drop_eq_nil_iff]
      simp
      omega
    have hj0 : Ev (fun k => gatepostref08_list.j1 k last out (L.map mkB) i false) (match pieceL p with
        | some n => resL (out ++ [(n : Int)]) (walkL last (L.drop (i + 1)))
        | none => ([], false)) := by
      refine Ev.step (f := fun k => (gatepostref08_value.f k (mkB p)).bind fun t => if t ≥ 0 then (gatepostref08_value.f k (mkB p)).bind fun t2 => gatepostref08_list.l0 k last (out ++ [IntKind.u16.wrap t2]) (L.map mkB) ((i + 1 : Nat) : Int) else some ([], false)) (fun k => ?_) (Ev.bind hV ?_)
      · simp only [gatepostref08_list.j1]
        have b3 : out.length < 70368744177664 := by omega
        rw [if_neg (by simp), if_pos (by omega), if_pos (by rw [List.length_map]; omega), e1]
        simp only [if_pos b3, ew]
      · cases hn : pieceL p with
        | none => exact evN (by simp [numI]) (Ev.now _)
        | some n =>
          rw [hn] at hV
          have hb := piece_bound hn
          refine evP (by simp [numI]) (Ev.bind hV ?_)
          have e : IntKind.u16.wrap (numI (some n)) = (n : Int) := by
            show IntKind.u16.wrap (n : Int) = _
            rw [IntKind.wrap_u16]; omega
          rw [e]
          exact ih (i + 1) (out ++ [(n : Int)]) (by omega) (by omega) (by simp; omega)
    have hj1 : ∀ q : Nat × Nat, quadL p = some q → Ev (fun k => gatepostref08_list.j1 k last out (L.map mkB) i true) (resL (out ++ [(q.1 : Int), (q.2 : Int)]) (walkL last (L.drop (i + 1)))) := fun q hq => by
      rw [hq] at hQ
      refine Ev.step (f := fun k => (gatepostref08_quad.f k (mkB p)).bind fun t => if out.length + t.length < 70368744177664 then gatepostref08_list.l0 k last (out ++ t) (L.map mkB) ((i + 1 : Nat) : Int) else none) (fun k => ?_) (Ev.bind hQ ?_)
      · simp only [gatepostref08_list.j1]
        rw [if_pos (by simp), if_pos (by omega), if_pos (by rw [List.length_map]; omega), e1, ew]
      · exact evP (by simp [quadI]; omega) (ih (i + 1) (out ++ [(q.1 : Int), (q.2 : Int)]) (by omega) (by omega) (by simp; omega))
    rw [hdr, resL_step, hem]
    have hpn : ∀ b, (match (pieceL p).map (fun n => [n]) with
        | some x => resL (out ++ x.map fun (n : Nat) => (n : Int)) (walkL last (L.drop (i + 1)))
        | none => ([], false)) = (match pieceL p with
        | some n => resL (out ++ [(n : Int)]) (walkL last (L.drop (i + 1)))
        | none => ([], false)) ∨ b = 0 := fun b => by
      left
      cases pieceL p <;> rfl
    have hpn := (hpn 1).resolve_right (by decide)
    by_cases hla : last = true ∧ i = L.length - 1
    · have hb : (last && decide (i = L.length - 1)) = true := by simp [hla]
      rw [hb]
      refine Ev.step (f := fun k => (gatepostref08_quad.f k (mkB p)).bind fun t => gatepostref08_list.j1 k last out (L.map mkB) i ((t.length : Int) == 2)) (fun k => ?_) (Ev.bind hQ ?_)
      · simp only [gatepostref08_list.l0]
        rw [if_pos (by rw [List.length_map]; omega), if_pos hla.1, ewl, if_pos (by omega), if_pos (by omega), e1]
      · unfold pieceP
        cases hq : quadL p with
        | none =>
          simp only
          rw [hpn]
          exact hj0
        | some q =>
          exact hj1 q hq
    · have hb : (last && decide (i = L.length - 1)) = false := by
        cases last with
        | false => rfl
        | true => simp at hla; simp [hla]
      rw [hb]
      have hP : pieceP p false = (pieceL p).map fun n => [n] := by
        unfold pieceP
        cases quadL p <;> rfl
      rw [hP, hpn]
      refine Ev.step (fun k => ?_) hj0
      simp only [gatepostref08_list.l0]
      rw [if_pos (by rw [List.length_map]; omega)]
      by_cases h1 : last = true
      · rw [if_pos h1, ewl, if_neg (by have : i ≠ L.length - 1 := fun e => hla ⟨h1, e⟩; omega)]
      · rw [if_neg h1]
theorem list_ref (s : ByteArray) (last : Bool) (hs : s.size ≤ 1000) : Ev (fun k => gatepostref08_list.f k s last) (resL [] (listL s.data.toList last)) := by
  unfold gatepostref08_list.f
  have hz := len_data s
  have h58 : (58 : Int) = ((58 : UInt8).toNat : Int) := rfl
  unfold listL
  by_cases h0 : s.data.toList = []
  · rw [if_pos h0]
    refine evP (by rw [h0] at hz; simp at hz; omega) (Ev.now _)
  · rw [if_neg h0, h58]
    refine evN (fun e => h0 (List.length_eq_zero_iff.1 (by omega))) (Ev.bind (split_ref s 58 hs) ?_)
    have hpart := fun p hp => splitL_part 58 s.data.toList p hp
    have hl := splitL_length 58 s.data.toList
    have h := list_l0 (splitL 58 s.data.toList) last (by omega) (fun p hp => by have := hpart p hp; omega) _ 0 [] (Nat.zero_le _) rfl (Nat.zero_le _)
    rw [List.drop_zero] at h
    exact h

/-! ### The first pair of colons -/
def colI (i : Nat) : Option (List UInt8 × List UInt8) → Int
  | some p => ((i + p.1.length : Nat) : Int)
  | none => -1
theorem col_l0 (s : ByteArray) (hs : s.size ≤ 1000) : ∀ (d i : Nat), i ≤ s.size → s.size - i = d → Ev (fun k => gatepostref08_colons.l0 k s i) (colI i (cutL (s.data.toList.drop i))) := by
  intro d
  induction d with
  | zero =>
    intro i hi hd
    have e2 : s.data.toList.drop i = [] := List.drop_of_length_le (by rw [len_data]; omega)
    rw [e2]
    refine Ev.step (f := fun _ => some _) (fun k => ?_) (Ev.now _)
    simp only [gatepostref08_colons.l0]
    rw [wrap_in (by omega) (by omega), if_neg (by omega)]
    rfl
  | succ d ih =>
    intro i hi hd
    obtain ⟨x, hx⟩ := byte_some (s := s) (i := i) (by omega)
    obtain ⟨hl, hg⟩ := List.getElem?_eq_some_iff.1 hx
    have hdr : s.data.toList.drop i = x :: s.data.toList.drop (i + 1) := by rw [List.drop_eq_getElem_cons hl, hg]
    have ew : wrap64 ((i : Int) + 1) = ((i + 1 : Nat) : Int) := by rw [wrap_in (by omega) (by omega)]; omega
    have h58 : ∀ y : UInt8, ((y.toNat : Int) = 58) ↔ y = 58 := fun y => ⟨fun h => UInt8.toNat_inj.1 (by have : (58 : UInt8).toNat = 58 := rfl; omega), fun h => by rw [h]; rfl⟩
    rw [hdr]
    by_cases hi1 : i + 1 < s.size
    · obtain ⟨y, hy⟩ := byte_some (s := s) (i := i + 1) hi1
      have hh : (s.data.toList.drop (i + 1)).head? = some y := by rw [List.head?_drop, hy]
      rw [cutL_cons]
      by_cases hc : x = 58 ∧ y = 58
      · rw [if_pos ⟨hc.1, by rw [hh, hc.2]⟩]
        refine Ev.step (f := fun _ => some _) (fun k => ?_) (Ev.now _)
        simp only [gatepostref08_colons.l0]
        rw [ew, if_pos (by omega), if_pos (by omega), if_pos (by omega), bt_nat s i x hx, if_pos ((h58 x).2 hc.1), if_pos (by omega), bt_nat s (i + 1) y hy, if_pos ((h58 y).2 hc.2)]
        rfl
      · rw [if_neg (fun e => hc ⟨e.1, by rw [hh] at e; exact Option.some.inj e.2⟩)]
        have h := ih (i + 1) (by omega) (by omega)
        have e : colI i ((cutL (s.data.toList.drop (i + 1))).map fun p => (x :: p.1, p.2)) = colI (i + 1) (cutL (s.data.toList.drop (i + 1))) := by
          cases cutL (s.data.toList.drop (i + 1)) with
          | none => rfl
          | some p => simp [colI]; omega
        rw [e]
        refine Ev.step (fun k => ?_) h
        simp only [gatepostref08_colons.l0]
        rw [ew, if_pos (by omega), if_pos (by omega), if_pos (by omega), bt_nat s i x hx]
        by_cases hx58 : x = 58
        · rw [if_pos ((h58 x).2 hx58), if_pos (by omega), bt_nat s (i + 1) y hy, if_neg (fun e => hc ⟨hx58, (h58 y).1 e⟩)]
        · rw [if_neg (fun e => hx58 ((h58 x).1 e))]
    · have e2 : s.data.toList.drop (i + 1) = [] := List.drop_of_length_le (by rw [len_data]; omega)
      rw [e2, cutL_cons, if_neg (by simp)]
      refine Ev.step (f := fun _ => some _) (fun k => ?_) (Ev.now _)
      simp only [gatepostref08_colons.l0]
      rw [ew, if_neg (by omega)]
      rfl
theorem col_ref (s : ByteArray) (hs : s.size ≤ 1000) : Ev (fun k => gatepostref08_colons.f k s) (colI 0 (cutL s.data.toList)) := by
  have h := col_l0 s hs s.size 0 (Nat.zero_le _) rfl
  rw [List.drop_zero] at h
  exact h
theorem cut_is : ∀ {l p t : List UInt8}, cutL l = some (p, t) → l = p ++ 58 :: 58 :: t
  | [], p, t, h => by cases h
  | c :: l, p, t, h => by
    rw [cutL_cons] at h
    by_cases hc : c = 58 ∧ l.head? = some 58
    · rw [if_pos hc] at h
      injection h with h
      injection h with h1 h2
      subst h1 h2
      obtain ⟨rfl, hh⟩ := hc
      cases l with
      | nil => cases hh
      | cons d l =>
        obtain rfl := Option.some.inj hh
        rfl
    · rw [if_neg hc] at h
      obtain ⟨⟨p', t'⟩, h1, h2⟩ := Option.map_eq_some_iff.1 h
      injection h2 with h3 h4
      subst h3 h4
      rw [cut_is h1]
      rfl
end Go.Proofs.YtodpjdeffhbkpaaGreatDoor.SixR

set_option maxRecDepth 100000
namespace Go.Proofs.YtodpjdeffhbkpaaGreatDoor
open Go.RowKit Go.Proofs.YtodpjdeffhbkpaaGreatDoorW.PrintWords Go.Proofs.YtodpjdeffhbkpaaGreatDoor.PSix Four Six SixR

/-- A row of 16-bit numbers, at its block's head, above B. -/
def RowB (B : Nat) (w : World) (A : Option Addr) (l : List Nat) : Prop := ∀ i n : Nat, l[i]? = some n → ∃ g, A = some ⟨g, 0, none⟩ ∧ B ≤ g ∧ w.cell? ⟨g, i, none⟩ = some (.int .u16 n)
theorem RowB.keep {B : Nat} {w w' : World} {A : Option Addr} {l : List Nat} (h : RowB B w A l) (hb : Below w.heap.size w w') : RowB B w' A l := fun i n hn => by
  obtain ⟨g, hA, hg, hc⟩ := h i n hn
  exact ⟨g, hA, hg, (hb.cell (p := ⟨g, i, none⟩) (World.block_lt_of_cell? w _ hc)).trans hc⟩
theorem RowB.low {B B' : Nat} {w : World} {A : Option Addr} {l : List Nat} (h : RowB B w A l) (hb : B' ≤ B) : RowB B' w A l := fun i n hn => by
  obtain ⟨g, hA, hg, hc⟩ := h i n hn
  exact ⟨g, hA, Nat.le_trans hb hg, hc⟩
theorem RowB.set {B b i : Nat} {w : World} {A : Option Addr} {l : List Nat} (h : RowB B w A l) (hb : b < B) (u : Value) : RowB B (w.setCell ⟨b, i, none⟩ u) A l := fun j n hn => by
  obtain ⟨g, hA, hg, hc⟩ := h j n hn
  refine ⟨g, hA, hg, ?_⟩
  have hh : (w.setCell ⟨b, i, none⟩ u).heap[g]? = w.heap[g]? := Below.heap_setCell w ⟨b, i, none⟩ u g (by simp; omega)
  unfold World.cell? at hc ⊢
  rw [hh]
  exact hc
theorem RowB.ofR {w : World} {base : Nat} {ok : Nat → Prop} {v : Value} {l : List Nat} (h : Kd.R (Kd.int .u16) 22 w base ok v (l.map fun (n : Nat) => (n : Int))) : ∃ A c, v = .slice A l.length c ∧ l.length ≤ c ∧ RowB base w A l := by
  obtain ⟨A, c, hv, hc, hC⟩ := Kd.R_reads h
  rw [List.length_map] at hv hc hC
  refine ⟨A, c, hv, hc, fun i n hn => ?_⟩
  have hi := (List.getElem?_eq_some_iff.1 hn).1
  obtain ⟨g, cap, hv2, hg, _⟩ := Kd.R_form h (by rw [List.length_map]; omega)
  rw [hv] at hv2
  injection hv2 with hA _ _
  subst hA
  obtain ⟨ad, ha, hc⟩ := Kd.at_int hC (i : Int) (by omega) (by omega)
  obtain rfl := Option.some.inj ha
  refine ⟨g, rfl, hg, ?_⟩
  have e : rd (l.map fun (n : Nat) => (n : Int)) (i : Int) = (n : Int) := by
    simp [rd, List.getD_eq_getElem?_getD, hn]
  rw [e] at hc
  have ea : ((⟨g, 0, none⟩ : Addr).add (i : Int).toNat) = ⟨g, i, none⟩ := by
    unfold Addr.add
    simp
    omega
  rw [ea] at hc
  exact hc
/-- A list with part of another one laid over it. -/
def fillO (c : List Nat) (o : Nat) (l : List Nat) (k : Nat) : List Nat := c.take o ++ l.take k ++ c.drop (o + k)
theorem fill_zero (c : List Nat) (o : Nat) (l : List Nat) : fillO c o l 0 = c := by simp [fillO]
theorem fill_len {c : List Nat} {o k : Nat} {l : List Nat} (h : o + k ≤ c.length) (hk : k ≤ l.length) : (fillO c o l k).length = c.length := by
  simp [fillO]
  omega
theorem fill_set {c : List Nat} {o k n : Nat} {l : List Nat} (h : o + k < c.length) (hn : l[k]? = some n) : (fillO c o l k).set (o + k) n = fillO c o l (k + 1) := by
  have hk := (List.getElem?_eq_some_iff.1 hn).1
  have e1 : (c.take o ++ l.take k).length = o + k := by simp; omega
  unfold fillO
  rw [List.set_append, if_neg (by omega), e1, Nat.sub_self, List.drop_eq_getElem_cons h, List.set_cons_zero, List.take_add_one, hn]
  simp [Nat.add_assoc]
theorem cells_set (c : List Nat) (j n : Nat) : (cellsA c).toArray.setIfInBounds j (.int .u16 n) = (cellsA (c.set j n)).toArray := by
  simp [cellsA, List.map_set]
theorem cells_at {c : List Nat} {j n : Nat} (h : c[j]? = some n) : (cellsA c).toArray[j]? = some (Value.int .u16 (n : Int)) := by simp [cellsA, h]
def zero8A : List Nat := [0, 0, 0, 0, 0, 0, 0, 0]
def ansR : Option (List Nat) → List Nat × Int
  | some a => (a, 0)
  | none => (zero8A, 2)
def RP (w0 : World) (R : Option (List Nat)) (e : Ending) (w : World) : Prop := e = .returned (.tuple #[.agg (cellsA (ansR R).1).toArray, .int .i64 (ansR R).2]) ∧ Below w0.heap.size w0 w
theorem list_okR {k : Nat} {s : ByteArray} {last : Bool} {r : Option (List Nat)} (w : World) (h : gatepostref08_list.f k s last = some (resL [] r)) :
    Calls Tryz.prog 21 #[.string s, .bool last] w fun e w' => ∃ A c l ok, e = .returned (.tuple #[.slice A l.length c, .bool ok]) ∧ RowB w.heap.size w' A l ∧ l.length ≤ c ∧ r = (if ok = true then some l else none) ∧ (ok = false → l = []) ∧ Below w.heap.size w w' := by
  cases r with
  | none =>
    refine (gatepostref08_list.calls k s last [] false w h).mono ?_
    rintro e w' ⟨v, rfl, hR, hb⟩
    obtain ⟨A, c, rfl, hc, hr⟩ := RowB.ofR (l := []) hR
    exact ⟨A, c, [], false, rfl, hr, hc, rfl, fun _ => rfl, hb⟩
  | some y =>
    refine (gatepostref08_list.calls k s last ([] ++ y.map fun (n : Nat) => (n : Int)) true w h).mono ?_
    rintro e w' ⟨v, rfl, hR, hb⟩
    rw [List.nil_append] at hR
    obtain ⟨A, c, rfl, hc, hr⟩ := RowB.ofR (l := y) hR
    exact ⟨A, c, y, true, rfl, hr, hc, rfl, fun e => (by cases e), hb⟩
theorem set_eight (z0 z1 z2 z3 z4 z5 z6 z7 x0 x1 x2 x3 x4 x5 x6 x7 : Value) : ((((((((#[z0, z1, z2, z3, z4, z5, z6, z7] : Array Value).setIfInBounds 0 x0).setIfInBounds 1 x1).setIfInBounds 2 x2).setIfInBounds 3 x3).setIfInBounds 4 x4).setIfInBounds 5 x5).setIfInBounds 6 x6).setIfInBounds 7 x7 = #[x0, x1, x2, x3, x4, x5, x6, x7] := by simp
theorem Blk.set8 {w : World} {g : Nat} {t : TypeId} (h : Blk w g t #[.int .u16 0, .int .u16 0, .int .u16 0, .int .u16 0, .int .u16 0, .int .u16 0, .int .u16 0, .int .u16 0]) (x0 x1 x2 x3 x4 x5 x6 x7 : Value) :
    Blk ((((((((w.setCell ⟨g, 0, none⟩ x0).setCell ⟨g, 1, none⟩ x1).setCell ⟨g, 2, none⟩ x2).setCell ⟨g, 3, none⟩ x3).setCell ⟨g, 4, none⟩ x4).setCell ⟨g, 5, none⟩ x5).setCell ⟨g, 6, none⟩ x6).setCell ⟨g, 7, none⟩ x7) g t #[x0, x1, x2, x3, x4, x5, x6, x7] := by
  have h := (((((((h.set_ 0 x0).set_ 1 x1).set_ 2 x2).set_ 3 x3).set_ 4 x4).set_ 5 x5).set_ 6 x6).set_ 7 x7
  rw [set_eight] at h
  exact h
theorem Below.set8 {B g : Nat} {w0 w : World} (h : Below B w0 w) (hg : B ≤ g) (x0 x1 x2 x3 x4 x5 x6 x7 : Value) :
    Below B w0 ((((((((w.setCell ⟨g, 0, none⟩ x0).setCell ⟨g, 1, none⟩ x1).setCell ⟨g, 2, none⟩ x2).setCell ⟨g, 3, none⟩ x3).setCell ⟨g, 4, none⟩ x4).setCell ⟨g, 5, none⟩ x5).setCell ⟨g, 6, none⟩ x6).setCell ⟨g, 7, none⟩ x7) :=
  (((((((h.setCell hg x0).setCell hg x1).setCell hg x2).setCell hg x3).setCell hg x4).setCell hg x5).setCell hg x6).setCell hg x7

set_option maxHeartbeats 8000000 in
/-- Without a pair of colons. -/
theorem refparse_one (s : ByteArray) (hs : s.size ≤ 1000) (w : World) (hcut : cutL s.data.toList = none) : Calls Tryz.prog 12 #[.string s] w (RP w (parse6 s.data.toList)) := by
  obtain ⟨k1, hk1⟩ := (col_ref s hs).rounds
  obtain ⟨k2, hk2⟩ := (list_ref s true hs).rounds
  rw [hcut] at hk1
  have HK1 := Lib.hid (fun W => gatepostref08_colons.calls k1 s _ W hk1)
  have HK2 := Lib.hid (fun W => list_okR W hk2)
  have HP := Lib.hid (show parse6 s.data.toList = (listL s.data.toList true).bind fun a => if a.length = 8 then some a else none by unfold parse6; rw [hcut])
  have HLB := Lib.hid (show ∀ a, listL s.data.toList true = some a → a.length ≤ 2002 from fun a h => by have := (listL_bound h).2; have h3 : s.data.toList.length = s.size := (by simp); omega)
  generalize parse6 s.data.toList = R at HP ⊢
  generalize listL s.data.toList true = L at HK2 HP HLB
  clear hk1 hk2 hcut hs
  have HC1 := Lib.hid (show colI 0 none = -1 from rfl)
  rw [HC1.out] at HK1
  go_enter Tryz.func12, Tryz.ntmps12
  go_wp2_with fail
  have HB0 := Lib.hid (show Below w.heap.size w ((w.alloc (.cells #[.int .u16 0, .int .u16 0, .int .u16 0, .int .u16 0, .int .u16 0, .int .u16 0, .int .u16 0, .int .u16 0] 23)).alloc (.cells #[.int .u16 0, .int .u16 0, .int .u16 0, .int .u16 0, .int .u16 0, .int .u16 0, .int .u16 0, .int .u16 0] 23)) from ((Below.refl _ _).alloc (Nat.le_refl _) _).alloc (by simp) _)
  have K2 := Lib.hid ((Blk.new w 23 #[.int .u16 0, .int .u16 0, .int .u16 0, .int .u16 0, .int .u16 0, .int .u16 0, .int .u16 0, .int .u16 0]).alloc (.cells #[.int .u16 0, .int .u16 0, .int .u16 0, .int .u16 0, .int .u16 0, .int .u16 0, .int .u16 0, .int .u16 0] 23))
  have K4 := Lib.hid (show Blk ((w.alloc (.cells #[.int .u16 0, .int .u16 0, .int .u16 0, .int .u16 0, .int .u16 0, .int .u16 0, .int .u16 0, .int .u16 0] 23)).alloc (.cells #[.int .u16 0, .int .u16 0, .int .u16 0, .int .u16 0, .int .u16 0, .int .u16 0, .int .u16 0, .int .u16 0] 23)) (w.heap.size + 1) 23 #[.int .u16 0, .int .u16 0, .int .u16 0, .int .u16 0, .int .u16 0, .int .u16 0, .int .u16 0, .int .u16 0] from by have := Blk.new (w.alloc (.cells #[.int .u16 0, .int .u16 0, .int .u16 0, .int .u16 0, .int .u16 0, .int .u16 0, .int .u16 0, .int .u16 0] 23)) 23 #[.int .u16 0, .int .u16 0, .int .u16 0, .int .u16 0, .int .u16 0, .int .u16 0, .int .u16 0, .int .u16 0]; simpa using this)
  refine (HK1.out _).mono ?_
  rintro e w1 ⟨rfl, hd⟩
  have hb := hd.below
  have HB1 := Lib.hid (belowOn HB0.out HB0.out.size hb)
  have K21 := Lib.hid (K2.out.keep hb)
  have K41 := Lib.hid (K4.out.keep hb)
  clear hb hd K2 K4 HB0 HC1 HK1
  go_wp2_with fail
  refine (HK2.out w1).mono ?_
  rintro e w2 ⟨A, c, l, ok, rfl, hr, hc, hL, hn, hb⟩
  have HB2 := Lib.hid (belowOn HB1.out HB1.out.size hb)
  have K22 := Lib.hid (K21.out.keep hb)
  have K42 := Lib.hid (K41.out.keep hb)
  have HRow := Lib.hid (hr.low (show w.heap.size + 2 ≤ w1.heap.size from by have := K41.out.lt; omega))
  have HL := Lib.hid hL
  clear hb hr hL K21 K41 HB1 HK2
  rw [HL.out] at HP
  rcases ok with _ | _
  · clear hn HRow HLB
    have HN := Lib.hid (show R = none by rw [HP.out]; rfl)
    clear HP HL
    have c4_0 : w2.cell? ⟨w.heap.size + 1, 0, none⟩ = some (.int .u16 0) := K42.out.cell 0
    have c4_1 : w2.cell? ⟨w.heap.size + 1, 1, none⟩ = some (.int .u16 0) := K42.out.cell 1
    have c4_2 : w2.cell? ⟨w.heap.size + 1, 2, none⟩ = some (.int .u16 0) := K42.out.cell 2
    have c4_3 : w2.cell? ⟨w.heap.size + 1, 3, none⟩ = some (.int .u16 0) := K42.out.cell 3
    have c4_4 : w2.cell? ⟨w.heap.size + 1, 4, none⟩ = some (.int .u16 0) := K42.out.cell 4
    have c4_5 : w2.cell? ⟨w.heap.size + 1, 5, none⟩ = some (.int .u16 0) := K42.out.cell 5
    have c4_6 : w2.cell? ⟨w.heap.size + 1, 6, none⟩ = some (.int .u16 0) := K42.out.cell 6
    have c4_7 : w2.cell? ⟨w.heap.size + 1, 7, none⟩ = some (.int .u16 0) := K42.out.cell 7
    have c2_0 : w2.cell? ⟨w.heap.size, 0, none⟩ = some (.int .u16 0) := K22.out.cell 0
    have c2_1 : w2.cell? ⟨w.heap.size, 1, none⟩ = some (.int .u16 0) := K22.out.cell 1
    have c2_2 : w2.cell? ⟨w.heap.size, 2, none⟩ = some (.int .u16 0) := K22.out.cell 2
    have c2_3 : w2.cell? ⟨w.heap.size, 3, none⟩ = some (.int .u16 0) := K22.out.cell 3
    have c2_4 : w2.cell? ⟨w.heap.size, 4, none⟩ = some (.int .u16 0) := K22.out.cell 4
    have c2_5 : w2.cell? ⟨w.heap.size, 5, none⟩ = some (.int .u16 0) := K22.out.cell 5
    have c2_6 : w2.cell? ⟨w.heap.size, 6, none⟩ = some (.int .u16 0) := K22.out.cell 6
    have c2_7 : w2.cell? ⟨w.heap.size, 7, none⟩ = some (.int .u16 0) := K22.out.cell 7
    have f2 : ∀ i, w2.frozen? ⟨w.heap.size, i, none⟩ = false := fun i => K22.out.frozen i
    go_wp2_with fail
    refine bodyPost_ret (results_cell_row2 rfl _ _ w.heap.size 23 _ (0, 0) _ rfl (Blk.set8 K22.out _ _ _ _ _ _ _ _) Tryz.underlying23 rfl (by kernel_rfl)) rfl ?_
    exact ⟨by rw [HN.out]; rfl, Below.set8 HB2.out (Nat.le_refl _) _ _ _ _ _ _ _ _⟩
  · have hl : l.length ≤ 2002 := HLB.out l (by rw [HL.out]; rfl)
    by_cases h8 : l.length = 8
    · have HN := Lib.hid (show R = some l by rw [HP.out]; simp [h8])
      have h8' : (l.length : Int) = 8 := by omega
      have H8 := Lib.hid h8
      have HZ := Lib.hid (show (cellsA zero8A).toArray = #[.int .u16 0, .int .u16 0, .int .u16 0, .int .u16 0, .int .u16 0, .int .u16 0, .int .u16 0, .int .u16 0] from rfl)
      clear hn HP HL HLB h8
      go_wp2_with fail
      go_loopg [8] 8 (fun m v8 w' => Hid (∃ k : Nat, k ≤ 8 ∧ m = 8 - k ∧ v8 = .int .i64 k ∧ Blk w' (w.heap.size + 1) 23 (cellsA (fillO zero8A 0 l k)).toArray ∧ Blk w' w.heap.size 23 #[.int .u16 0, .int .u16 0, .int .u16 0, .int .u16 0, .int .u16 0, .int .u16 0, .int .u16 0, .int .u16 0] ∧ RowB (w.heap.size + 2) w' A l ∧ Below w.heap.size w w'))
      case atStart => exact ⟨0, by omega, by omega, rfl, by rw [fill_zero, HZ.out]; exact K42.out, K22.out, HRow.out, HB2.out⟩
      case round =>
        obtain ⟨k, hk, hm, rfl, hk4, hk2, hrw, hbw⟩ := hrel.out
        have HM := Lib.hid hm
        have KR4 := Lib.hid hk4
        have KR2 := Lib.hid hk2
        have HRW := Lib.hid hrw
        have HBW := Lib.hid hbw
        clear hrel hm hk4 hk2 hrw hbw
        by_cases hk8 : k < 8
        · have hk8' : (k : Int) < 8 := by omega
          have hkl : (k : Int) < (l.length : Int) := by omega
          have hlk : k < l.length := by omega
          obtain ⟨n, hn⟩ : ∃ n, l[k]? = some n := ⟨l[k], List.getElem?_eq_getElem hlk⟩
          obtain ⟨g, rfl, hg, hcell⟩ := HRW.out k n hn
          obtain ⟨z, hz⟩ : ∃ z, (fillO zero8A 0 l k)[k]? = some z := by
            have : (fillO zero8A 0 l k).length = 8 := fill_len (c := zero8A) (by simp [zero8A]; omega) (by omega)
            exact ⟨(fillO zero8A 0 l k)[k]'(by omega), List.getElem?_eq_getElem _⟩
          have hzc : wr.cell? ⟨w.heap.size + 1, k, none⟩ = some (.int .u16 z) := by rw [KR4.out.cell]; exact cells_at hz
          have hzf : wr.frozen? ⟨w.heap.size + 1, k, none⟩ = false := KR4.out.frozen k
          have HS := Lib.hid (show Blk (wr.setCell ⟨w.heap.size + 1, k, none⟩ (.int .u16 n)) (w.heap.size + 1) 23 (cellsA (fillO zero8A 0 l (k + 1))).toArray by
            have := KR4.out.set_ k (.int .u16 n)
            rw [cells_set] at this
            have e := fill_set (c := zero8A) (o := 0) (k := k) (l := l) (n := n) (by simp [zero8A]; omega) hn
            rw [Nat.zero_add] at e
            rwa [e] at this)
          clear hn hz hk hlk hk8
          go_wp2_with fail
          go_roundg (8 - (k + 1))
          case measure => have := HM.out; omega
          case rel => exact ⟨k + 1, by omega, rfl, by first | rfl | go_num, HS.out, KR2.out.far (by simp) _, HRW.out.set (by omega) _, HBW.out.setCell (by simp) _⟩
        · obtain rfl : k = 8 := by omega
          have KE4 := Lib.hid (show Blk wr (w.heap.size + 1) 23 (cellsA l).toArray by
            have := KR4.out
            rwa [show fillO zero8A 0 l 8 = l by simp [fillO, zero8A]; rw [List.take_of_length_le (by have := H8.out; omega)]] at this)
          obtain ⟨x0, x1, x2, x3, x4, x5, x6, x7, hxs⟩ := eight_of H8.out
          rw [hxs, cells_eight] at KE4
          have HAns := Lib.hid (show (ansR R) = ([x0, x1, x2, x3, x4, x5, x6, x7], 0) by rw [HN.out, hxs]; rfl)
          clear HN KR4 H8 hk hk8 HM HRow HRW K22 K42 HZ hxs
          have c4_0 : wr.cell? ⟨w.heap.size + 1, 0, none⟩ = some (.int .u16 x0) := KE4.out.cell 0
          have c4_1 : wr.cell? ⟨w.heap.size + 1, 1, none⟩ = some (.int .u16 x1) := KE4.out.cell 1
          have c4_2 : wr.cell? ⟨w.heap.size + 1, 2, none⟩ = some (.int .u16 x2) := KE4.out.cell 2
          have c4_3 : wr.cell? ⟨w.heap.size + 1, 3, none⟩ = some (.int .u16 x3) := KE4.out.cell 3
          have c4_4 : wr.cell? ⟨w.heap.size + 1, 4, none⟩ = some (.int .u16 x4) := KE4.out.cell 4
          have c4_5 : wr.cell? ⟨w.heap.size + 1, 5, none⟩ = some (.int .u16 x5) := KE4.out.cell 5
          have c4_6 : wr.cell? ⟨w.heap.size + 1, 6, none⟩ = some (.int .u16 x6) := KE4.out.cell 6
          have c4_7 : wr.cell? ⟨w.heap.size + 1, 7, none⟩ = some (.int .u16 x7) := KE4.out.cell 7
          have c2_0 : wr.cell? ⟨w.heap.size, 0, none⟩ = some (.int .u16 0) := KR2.out.cell 0
          have c2_1 : wr.cell? ⟨w.heap.size, 1, none⟩ = some (.int .u16 0) := KR2.out.cell 1
          have c2_2 : wr.cell? ⟨w.heap.size, 2, none⟩ = some (.int .u16 0) := KR2.out.cell 2
          have c2_3 : wr.cell? ⟨w.heap.size, 3, none⟩ = some (.int .u16 0) := KR2.out.cell 3
          have c2_4 : wr.cell? ⟨w.heap.size, 4, none⟩ = some (.int .u16 0) := KR2.out.cell 4
          have c2_5 : wr.cell? ⟨w.heap.size, 5, none⟩ = some (.int .u16 0) := KR2.out.cell 5
          have c2_6 : wr.cell? ⟨w.heap.size, 6, none⟩ = some (.int .u16 0) := KR2.out.cell 6
          have c2_7 : wr.cell? ⟨w.heap.size, 7, none⟩ = some (.int .u16 0) := KR2.out.cell 7
          have f2 : ∀ i, wr.frozen? ⟨w.heap.size, i, none⟩ = false := fun i => KR2.out.frozen i
          go_wp2_with fail
          refine bodyPost_ret (results_cell_row2 rfl _ _ w.heap.size 23 _ (0, 0) _ rfl (Blk.set8 KR2.out _ _ _ _ _ _ _ _) Tryz.underlying23 rfl (by kernel_rfl)) rfl ?_
          exact ⟨by rw [HAns.out]; rfl, Below.set8 HBW.out (Nat.le_refl _) _ _ _ _ _ _ _ _⟩
    · have HN := Lib.hid (show R = none by rw [HP.out]; simp [h8])
      have h8' : ¬ (l.length : Int) = 8 := by omega
      clear hn HP HL HLB HRow h8
      have c4_0 : w2.cell? ⟨w.heap.size + 1, 0, none⟩ = some (.int .u16 0) := K42.out.cell 0
      have c4_1 : w2.cell? ⟨w.heap.size + 1, 1, none⟩ = some (.int .u16 0) := K42.out.cell 1
      have c4_2 : w2.cell? ⟨w.heap.size + 1, 2, none⟩ = some (.int .u16 0) := K42.out.cell 2
      have c4_3 : w2.cell? ⟨w.heap.size + 1, 3, none⟩ = some (.int .u16 0) := K42.out.cell 3
      have c4_4 : w2.cell? ⟨w.heap.size + 1, 4, none⟩ = some (.int .u16 0) := K42.out.cell 4
      have c4_5 : w2.cell? ⟨w.heap.size + 1, 5, none⟩ = some (.int .u16 0) := K42.out.cell 5
      have c4_6 : w2.cell? ⟨w.heap.size + 1, 6, none⟩ = some (.int .u16 0) := K42.out.cell 6
      have c4_7 : w2.cell? ⟨w.heap.size + 1, 7, none⟩ = some (.int .u16 0) := K42.out.cell 7
      have c2_0 : w2.cell? ⟨w.heap.size, 0, none⟩ = some (.int .u16 0) := K22.out.cell 0
      have c2_1 : w2.cell? ⟨w.heap.size, 1, none⟩ = some (.int .u16 0) := K22.out.cell 1
      have c2_2 : w2.cell? ⟨w.heap.size, 2, none⟩ = some (.int .u16 0) := K22.out.cell 2
      have c2_3 : w2.cell? ⟨w.heap.size, 3, none⟩ = some (.int .u16 0) := K22.out.cell 3
      have c2_4 : w2.cell? ⟨w.heap.size, 4, none⟩ = some (.int .u16 0) := K22.out.cell 4
      have c2_5 : w2.cell? ⟨w.heap.size, 5, none⟩ = some (.int .u16 0) := K22.out.cell 5
      have c2_6 : w2.cell? ⟨w.heap.size, 6, none⟩ = some (.int .u16 0) := K22.out.cell 6
      have c2_7 : w2.cell? ⟨w.heap.size, 7, none⟩ = some (.int .u16 0) := K22.out.cell 7
      have f2 : ∀ i, w2.frozen? ⟨w.heap.size, i, none⟩ = false := fun i => K22.out.frozen i
      go_wp2_with fail
      refine bodyPost_ret (results_cell_row2 rfl _ _ w.heap.size 23 _ (0, 0) _ rfl (Blk.set8 K22.out _ _ _ _ _ _ _ _) Tryz.underlying23 rfl (by kernel_rfl)) rfl ?_
      exact ⟨by rw [HN.out]; rfl, Below.set8 HB2.out (Nat.le_refl _) _ _ _ _ _ _ _ _⟩

end Go.Proofs.YtodpjdeffhbkpaaGreatDoor

set_option maxRecDepth 100000
namespace Go.Proofs.YtodpjdeffhbkpaaGreatDoor
open Go.RowKit Go.Proofs.YtodpjdeffhbkpaaGreatDoorW.PrintWords Go.Proofs.YtodpjdeffhbkpaaGreatDoor.PSix Four Six SixR

theorem cut_head_s {s : ByteArray} {h t : List UInt8} (e : s.data.toList = h ++ 58 :: 58 :: t) : s.extract 0 h.length = mkB h := by
  rw [extract_mk, e]
  simp
theorem cut_tail_s {s : ByteArray} {h t : List UInt8} (e : s.data.toList = h ++ 58 :: 58 :: t) : s.extract (h.length + 2) s.size = mkB t := by
  have hz : s.data.toList.length = s.size := by simp
  rw [extract_mk, List.take_of_length_le (by omega), e]
  simp
/-- Noughts, a list at the head, one at the end. -/
theorem fill_two (a b : List Nat) (h : a.length + b.length ≤ 8) : fillO (fillO zero8A 0 a a.length) (8 - b.length) b b.length = a ++ List.replicate (8 - (a.length + b.length)) 0 ++ b := by
  have hz : zero8A = List.replicate 8 0 := rfl
  have e1 : fillO zero8A 0 a a.length = a ++ List.replicate (8 - a.length) 0 := by
    unfold fillO
    rw [hz, List.take_zero, List.nil_append, List.take_length, Nat.zero_add, List.drop_replicate]
  rw [e1]
  unfold fillO
  rw [show 8 - b.length + b.length = 8 by omega, List.drop_of_length_le (by simp; omega), List.take_append, List.take_of_length_le (by omega), List.take_replicate, List.take_length, List.append_nil, show min (8 - b.length - a.length) (8 - a.length) = 8 - (a.length + b.length) by omega]

set_option maxHeartbeats 8000000 in
theorem refparse_two (s : ByteArray) (hs : s.size ≤ 1000) (w : World) (h t : List UInt8) (hcut : cutL s.data.toList = some (h, t)) : Calls Tryz.prog 12 #[.string s] w (RP w (parse6 s.data.toList)) := by
  have he := SixR.cut_is hcut
  have hsz : s.size = h.length + 2 + t.length := by
    have h1 : s.data.toList.length = s.size := by simp
    rw [← h1, he]
    simp
    omega
  obtain ⟨k1, hk1⟩ := (col_ref s hs).rounds
  have ha := list_ref (mkB h) false (by rw [mkB_size]; omega)
  have hb := list_ref (mkB t) true (by rw [mkB_size]; omega)
  rw [mkB_data] at ha hb
  obtain ⟨k2, hk2⟩ := ha.rounds
  obtain ⟨k3, hk3⟩ := hb.rounds
  rw [hcut] at hk1
  have hk1' : gatepostref08_colons.f k1 s = some ((h.length : Nat) : Int) := by
    rw [hk1]
    simp [colI]
  have HK1 := Lib.hid (fun W => gatepostref08_colons.calls k1 s _ W hk1')
  have HK2 := Lib.hid (fun W => list_okR W hk2)
  have HK3 := Lib.hid (fun W => list_okR W hk3)
  have HP := Lib.hid (show parse6 s.data.toList = (listL h false).bind fun a => (listL t true).bind fun b => if a.length + b.length < 8 then some (a ++ List.replicate (8 - (a.length + b.length)) 0 ++ b) else none by unfold parse6; rw [hcut])
  have HLA := Lib.hid (show ∀ a, listL h false = some a → a.length ≤ 2002 from fun a e => by have := (listL_bound e).2; omega)
  have HLB := Lib.hid (show ∀ a, listL t true = some a → a.length ≤ 2002 from fun a e => by have := (listL_bound e).2; omega)
  have sl1 : ∀ W, (Instr.slice 9 (.string s) none (some (.int .i64 (h.length : Int))) none).run Tryz.prog W = .ok (.string (mkB h)) W := fun W => by
    rw [run_slice_string_to_if W 9 s .i64 _ Tryz.underlying9, if_pos (by omega), Int.toNat_natCast, cut_head_s he]
  have sl2 : ∀ W, (Instr.slice 9 (.string s) (some (.int .i64 ((h.length : Int) + 2))) none none).run Tryz.prog W = .ok (.string (mkB t)) W := fun W => by
    rw [run_slice_string_from_if W 9 s .i64 _ Tryz.underlying9, if_pos (by omega), show ((h.length : Int) + 2).toNat = h.length + 2 by omega, cut_tail_s he]
  have hat : ¬ (h.length : Int) < 0 := by omega
  have hat2 : IntKind.i64.wrap ((h.length : Int) + 2) = (h.length : Int) + 2 := by rw [IntKind.wrap_i64]; omega
  generalize parse6 s.data.toList = R at HP ⊢
  generalize listL h false = LA at HK2 HP HLA
  generalize listL t true = LB at HK3 HP HLB
  clear hk1 hk1' hk2 hk3 hcut hs ha hb he hsz
  generalize h.length = at_ at HK1 sl1 sl2 hat hat2
  generalize mkB h = SH at *
  generalize mkB t = ST at *
  go_enter Tryz.func12, Tryz.ntmps12
  go_wp2_with fail
  have HB0 := Lib.hid (show Below w.heap.size w ((w.alloc (.cells #[.int .u16 0, .int .u16 0, .int .u16 0, .int .u16 0, .int .u16 0, .int .u16 0, .int .u16 0, .int .u16 0] 23)).alloc (.cells #[.int .u16 0, .int .u16 0, .int .u16 0, .int .u16 0, .int .u16 0, .int .u16 0, .int .u16 0, .int .u16 0] 23)) from ((Below.refl _ _).alloc (Nat.le_refl _) _).alloc (by simp) _)
  have K2 := Lib.hid ((Blk.new w 23 #[.int .u16 0, .int .u16 0, .int .u16 0, .int .u16 0, .int .u16 0, .int .u16 0, .int .u16 0, .int .u16 0]).alloc (.cells #[.int .u16 0, .int .u16 0, .int .u16 0, .int .u16 0, .int .u16 0, .int .u16 0, .int .u16 0, .int .u16 0] 23))
  have K4 := Lib.hid (show Blk ((w.alloc (.cells #[.int .u16 0, .int .u16 0, .int .u16 0, .int .u16 0, .int .u16 0, .int .u16 0, .int .u16 0, .int .u16 0] 23)).alloc (.cells #[.int .u16 0, .int .u16 0, .int .u16 0, .int .u16 0, .int .u16 0, .int .u16 0, .int .u16 0, .int .u16 0] 23)) (w.heap.size + 1) 23 #[.int .u16 0, .int .u16 0, .int .u16 0, .int .u16 0, .int .u16 0, .int .u16 0, .int .u16 0, .int .u16 0] from by have := Blk.new (w.alloc (.cells #[.int .u16 0, .int .u16 0, .int .u16 0, .int .u16 0, .int .u16 0, .int .u16 0, .int .u16 0, .int .u16 0] 23)) 23 #[.int .u16 0, .int .u16 0, .int .u16 0, .int .u16 0, .int .u16 0, .int .u16 0, .int .u16 0, .int .u16 0]; simpa using this)
  refine (HK1.out _).mono ?_
  rintro e w1 ⟨rfl, hd⟩
  have hb := hd.below
  have HB1 := Lib.hid (belowOn HB0.out HB0.out.size hb)
  have K21 := Lib.hid (K2.out.keep hb)
  have K41 := Lib.hid (K4.out.keep hb)
  clear hb hd K2 K4 HB0 HK1
  go_wp2_with fail
  refine (HK2.out w1).mono ?_
  rintro e w2 ⟨A, c, l, ok, rfl, hr, hc, hL, hn, hb⟩
  have HB2 := Lib.hid (belowOn HB1.out HB1.out.size hb)
  have K22 := Lib.hid (K21.out.keep hb)
  have K42 := Lib.hid (K41.out.keep hb)
  have HRow := Lib.hid (hr.low (show w.heap.size + 2 ≤ w1.heap.size from by have := K41.out.lt; omega))
  have HL := Lib.hid hL
  have hl : l.length ≤ 2002 := by
    cases ok with
    | true => exact HLA.out l (by rw [HL.out]; rfl)
    | false => rw [hn rfl]; simp
  clear hb hr hL K21 K41 HB1 HK2 hn HLA
  go_wp2_with fail
  refine (HK3.out w2).mono ?_
  rintro e w3 ⟨A', c', l', ok', rfl, hr, hc', hL, hn, hb⟩
  have HB3 := Lib.hid (belowOn HB2.out HB2.out.size hb)
  have K23 := Lib.hid (K22.out.keep hb)
  have K43 := Lib.hid (K42.out.keep hb)
  have HRow1 := Lib.hid (HRow.out.keep hb)
  have HRow2 := Lib.hid (hr.low (show w.heap.size + 2 ≤ w2.heap.size from by have := K42.out.lt; omega))
  have HL' := Lib.hid hL
  have hl' : l'.length ≤ 2002 := by
    cases ok' with
    | true => exact HLB.out l' (by rw [HL'.out]; rfl)
    | false => rw [hn rfl]; simp
  clear hb hr hL K22 K42 HB2 HK3 hn HLB HRow
  rw [HL.out, HL'.out] at HP
  rcases ok with _ | _
  · clear HRow1 HRow2
    have HN := Lib.hid (show R = none by rw [HP.out]; rfl)
    clear HP HL HL'
    have c4_0 : w3.cell? ⟨w.heap.size + 1, 0, none⟩ = some (.int .u16 0) := K43.out.cell 0
    have c4_1 : w3.cell? ⟨w.heap.size + 1, 1, none⟩ = some (.int .u16 0) := K43.out.cell 1
    have c4_2 : w3.cell? ⟨w.heap.size + 1, 2, none⟩ = some (.int .u16 0) := K43.out.cell 2
    have c4_3 : w3.cell? ⟨w.heap.size + 1, 3, none⟩ = some (.int .u16 0) := K43.out.cell 3
    have c4_4 : w3.cell? ⟨w.heap.size + 1, 4, none⟩ = some (.int .u16 0) := K43.out.cell 4
    have c4_5 : w3.cell? ⟨w.heap.size + 1, 5, none⟩ = some (.int .u16 0) := K43.out.cell 5
    have c4_6 : w3.cell? ⟨w.heap.size + 1, 6, none⟩ = some (.int .u16 0) := K43.out.cell 6
    have c4_7 : w3.cell? ⟨w.heap.size + 1, 7, none⟩ = some (.int .u16 0) := K43.out.cell 7
    have c2_0 : w3.cell? ⟨w.heap.size, 0, none⟩ = some (.int .u16 0) := K23.out.cell 0
    have c2_1 : w3.cell? ⟨w.heap.size, 1, none⟩ = some (.int .u16 0) := K23.out.cell 1
    have c2_2 : w3.cell? ⟨w.heap.size, 2, none⟩ = some (.int .u16 0) := K23.out.cell 2
    have c2_3 : w3.cell? ⟨w.heap.size, 3, none⟩ = some (.int .u16 0) := K23.out.cell 3
    have c2_4 : w3.cell? ⟨w.heap.size, 4, none⟩ = some (.int .u16 0) := K23.out.cell 4
    have c2_5 : w3.cell? ⟨w.heap.size, 5, none⟩ = some (.int .u16 0) := K23.out.cell 5
    have c2_6 : w3.cell? ⟨w.heap.size, 6, none⟩ = some (.int .u16 0) := K23.out.cell 6
    have c2_7 : w3.cell? ⟨w.heap.size, 7, none⟩ = some (.int .u16 0) := K23.out.cell 7
    have f2 : ∀ i, w3.frozen? ⟨w.heap.size, i, none⟩ = false := fun i => K23.out.frozen i
    go_wp2_with fail
    refine bodyPost_ret (results_cell_row2 rfl _ _ w.heap.size 23 _ (0, 0) _ rfl (Blk.set8 K23.out _ _ _ _ _ _ _ _) Tryz.underlying23 rfl (by kernel_rfl)) rfl ?_
    exact ⟨by rw [HN.out]; rfl, Below.set8 HB3.out (Nat.le_refl _) _ _ _ _ _ _ _ _⟩
  · rcases ok' with _ | _
    · clear HRow1 HRow2
      have HN := Lib.hid (show R = none by rw [HP.out]; rfl)
      clear HP HL HL'
      have c4_0 : w3.cell? ⟨w.heap.size + 1, 0, none⟩ = some (.int .u16 0) := K43.out.cell 0
      have c4_1 : w3.cell? ⟨w.heap.size + 1, 1, none⟩ = some (.int .u16 0) := K43.out.cell 1
      have c4_2 : w3.cell? ⟨w.heap.size + 1, 2, none⟩ = some (.int .u16 0) := K43.out.cell 2
      have c4_3 : w3.cell? ⟨w.heap.size + 1, 3, none⟩ = some (.int .u16 0) := K43.out.cell 3
      have c4_4 : w3.cell? ⟨w.heap.size + 1, 4, none⟩ = some (.int .u16 0) := K43.out.cell 4
      have c4_5 : w3.cell? ⟨w.heap.size + 1, 5, none⟩ = some (.int .u16 0) := K43.out.cell 5
      have c4_6 : w3.cell? ⟨w.heap.size + 1, 6, none⟩ = some (.int .u16 0) := K43.out.cell 6
      have c4_7 : w3.cell? ⟨w.heap.size + 1, 7, none⟩ = some (.int .u16 0) := K43.out.cell 7
      have c2_0 : w3.cell? ⟨w.heap.size, 0, none⟩ = some (.int .u16 0) := K23.out.cell 0
      have c2_1 : w3.cell? ⟨w.heap.size, 1, none⟩ = some (.int .u16 0) := K23.out.cell 1
      have c2_2 : w3.cell? ⟨w.heap.size, 2, none⟩ = some (.int .u16 0) := K23.out.cell 2
      have c2_3 : w3.cell? ⟨w.heap.size, 3, none⟩ = some (.int .u16 0) := K23.out.cell 3
      have c2_4 : w3.cell? ⟨w.heap.size, 4, none⟩ = some (.int .u16 0) := K23.out.cell 4
      have c2_5 : w3.cell? ⟨w.heap.size, 5, none⟩ = some (.int .u16 0) := K23.out.cell 5
      have c2_6 : w3.cell? ⟨w.heap.size, 6, none⟩ = some (.int .u16 0) := K23.out.cell 6
      have c2_7 : w3.cell? ⟨w.heap.size, 7, none⟩ = some (.int .u16 0) := K23.out.cell 7
      have f2 : ∀ i, w3.frozen? ⟨w.heap.size, i, none⟩ = false := fun i => K23.out.frozen i
      go_wp2_with fail
      refine bodyPost_ret (results_cell_row2 rfl _ _ w.heap.size 23 _ (0, 0) _ rfl (Blk.set8 K23.out _ _ _ _ _ _ _ _) Tryz.underlying23 rfl (by kernel_rfl)) rfl ?_
      exact ⟨by rw [HN.out]; rfl, Below.set8 HB3.out (Nat.le_refl _) _ _ _ _ _ _ _ _⟩
    · have hws : IntKind.i64.wrap ((l.length : Int) + (l'.length : Int)) = (l.length : Int) + (l'.length : Int) := by rw [IntKind.wrap_i64]; omega
      by_cases h8 : l.length + l'.length < 8
      · have HN := Lib.hid (show R = some (l ++ List.replicate (8 - (l.length + l'.length)) 0 ++ l') by rw [HP.out]; simp [h8])
        have h8' : ¬ (7 : Int) < (l.length : Int) + (l'.length : Int) := by omega
        have H8 := Lib.hid h8
        have HZ := Lib.hid (show (cellsA zero8A).toArray = #[.int .u16 0, .int .u16 0, .int .u16 0, .int .u16 0, .int .u16 0, .int .u16 0, .int .u16 0, .int .u16 0] from rfl)
        clear HP HL HL' h8
        go_wp2_with fail
        go_loopg [13] (l.length) (fun m v13 w' => Hid (∃ k : Nat, k ≤ l.length ∧ m = l.length - k ∧ v13 = .int .i64 k ∧ Blk w' (w.heap.size + 1) 23 (cellsA (fillO zero8A 0 l k)).toArray ∧ Blk w' w.heap.size 23 #[.int .u16 0, .int .u16 0, .int .u16 0, .int .u16 0, .int .u16 0, .int .u16 0, .int .u16 0, .int .u16 0] ∧ RowB (w.heap.size + 2) w' A l ∧ RowB (w.heap.size + 2) w' A' l' ∧ Below w.heap.size w w'))
        case atStart => exact ⟨0, by omega, by omega, rfl, by rw [fill_zero, HZ.out]; exact K43.out, K23.out, HRow1.out, HRow2.out, HB3.out⟩
        case round =>
          obtain ⟨k, hk, hm, rfl, hk4, hk2, hrw, hrw2, hbw⟩ := hrel.out
          have HM := Lib.hid hm
          have KR4 := Lib.hid hk4
          have KR2 := Lib.hid hk2
          have HRW := Lib.hid hrw
          have HRW2 := Lib.hid hrw2
          have HBW := Lib.hid hbw
          clear hrel hm hk4 hk2 hrw hrw2 hbw
          by_cases hlk : k < l.length
          · have hkl : (k : Int) < (l.length : Int) := by omega
            have hk8' : (k : Int) < 8 := by have := H8.out; omega
            obtain ⟨n, hn⟩ : ∃ n, l[k]? = some n := ⟨l[k], List.getElem?_eq_getElem hlk⟩
            obtain ⟨g, rfl, hg, hcell⟩ := HRW.out k n hn
            obtain ⟨z, hz⟩ : ∃ z, (fillO zero8A 0 l k)[k]? = some z := by
              have : (fillO zero8A 0 l k).length = 8 := fill_len (c := zero8A) (by simp [zero8A]; omega) (by omega)
              exact ⟨(fillO zero8A 0 l k)[k]'(by omega), List.getElem?_eq_getElem _⟩
            have hzc : wr.cell? ⟨w.heap.size + 1, k, none⟩ = some (.int .u16 z) := by rw [KR4.out.cell]; exact cells_at hz
            have hzf : wr.frozen? ⟨w.heap.size + 1, k, none⟩ = false := KR4.out.frozen k
            have HS := Lib.hid (show Blk (wr.setCell ⟨w.heap.size + 1, k, none⟩ (.int .u16 n)) (w.heap.size + 1) 23 (cellsA (fillO zero8A 0 l (k + 1))).toArray by
              have := KR4.out.set_ k (.int .u16 n)
              rw [cells_set] at this
              have e := fill_set (c := zero8A) (o := 0) (k := k) (l := l) (n := n) (by simp [zero8A]; omega) hn
              rw [Nat.zero_add] at e
              rwa [e] at this)
            have HKL := Lib.hid hlk
            clear hn hz hk hlk
            go_wp2_with fail
            go_roundg (l.length - (k + 1))
            case measure => have := HM.out; have := HKL.out; omega
            case rel => exact ⟨k + 1, by have := HKL.out; omega, rfl, by first | rfl | go_num, HS.out, KR2.out.far (by simp) _, HRW.out.set (by omega) _, HRW2.out.set (by omega) _, HBW.out.setCell (by simp) _⟩
          · have HKE := Lib.hid (show k = l.length by omega)
            have hkl : ¬ (k : Int) < (l.length : Int) := by omega
            have KE4 := Lib.hid (show Blk wr (w.heap.size + 1) 23 (cellsA (fillO zero8A 0 l l.length)).toArray by
              have := KR4.out
              rwa [HKE.out] at this)
            obtain ⟨c1, hc1⟩ : ∃ c1, c1 = fillO zero8A 0 l l.length := ⟨_, rfl⟩
            rw [← hc1] at KE4
            have HC1 := Lib.hid hc1
            have HC1L := Lib.hid (show c1.length = 8 by rw [hc1]; exact fill_len (c := zero8A) (by have := H8.out; simp [zero8A]; omega) (Nat.le_refl _))
            obtain ⟨o, ho⟩ : ∃ o : Nat, o = 8 - l'.length := ⟨_, rfl⟩
            have HO := Lib.hid ho
            have how : IntKind.i64.wrap (8 - (l'.length : Int)) = (o : Int) := by rw [IntKind.wrap_i64]; have := H8.out; omega
            clear hc1 ho KR4 HRow1 HRow2 K23 K43 hlk hk HM
            go_wp2_with fail
            go_loopg [14] (l'.length) (fun m v14 w' => Hid (∃ k : Nat, k ≤ l'.length ∧ m = l'.length - k ∧ v14 = .int .i64 k ∧ Blk w' (w.heap.size + 1) 23 (cellsA (fillO c1 o l' k)).toArray ∧ Blk w' w.heap.size 23 #[.int .u16 0, .int .u16 0, .int .u16 0, .int .u16 0, .int .u16 0, .int .u16 0, .int .u16 0, .int .u16 0] ∧ RowB (w.heap.size + 2) w' A' l' ∧ Below w.heap.size w w'))
            case atStart => exact ⟨0, by omega, by omega, rfl, by rw [fill_zero]; exact KE4.out, KR2.out, HRW2.out, HBW.out⟩
            case round =>
              clear KE4 KR2 HRW HRW2 HBW
              obtain ⟨j, hj, hm, rfl, hk4, hk2, hrw2, hbw⟩ := hrel.out
              have HM := Lib.hid hm
              have KR4 := Lib.hid hk4
              have KR2 := Lib.hid hk2
              have HRW2 := Lib.hid hrw2
              have HBW := Lib.hid hbw
              clear hrel hm hk4 hk2 hrw2 hbw
              by_cases hlk : j < l'.length
              · have hjl : (j : Int) < (l'.length : Int) := by omega
                obtain ⟨q, hq⟩ : ∃ q : Nat, q = o + j := ⟨_, rfl⟩
                have hq8 : q < 8 := by have := H8.out; have := HO.out; omega
                have hqw : IntKind.i64.wrap ((o : Int) + (j : Int)) = (q : Int) := by rw [IntKind.wrap_i64]; omega
                have hq8' : (q : Int) < 8 := by omega
                obtain ⟨n, hn⟩ : ∃ n, l'[j]? = some n := ⟨l'[j], List.getElem?_eq_getElem hlk⟩
                obtain ⟨g, rfl, hg, hcell⟩ := HRW2.out j n hn
                obtain ⟨z, hz⟩ : ∃ z, (fillO c1 o l' j)[q]? = some z := by
                  have : (fillO c1 o l' j).length = 8 := by rw [fill_len (by have := HC1L.out; omega) (by omega)]; exact HC1L.out
                  exact ⟨(fillO c1 o l' j)[q]'(by omega), List.getElem?_eq_getElem _⟩
                have hzc : wr.cell? ⟨w.heap.size + 1, q, none⟩ = some (.int .u16 z) := by rw [KR4.out.cell]; exact cells_at hz
                have hzf : wr.frozen? ⟨w.heap.size + 1, q, none⟩ = false := KR4.out.frozen q
                have HS := Lib.hid (show Blk (wr.setCell ⟨w.heap.size + 1, q, none⟩ (.int .u16 n)) (w.heap.size + 1) 23 (cellsA (fillO c1 o l' (j + 1))).toArray by
                  have := KR4.out.set_ q (.int .u16 n)
                  rw [cells_set] at this
                  have e := fill_set (c := c1) (o := o) (k := j) (l := l') (n := n) (by have := HC1L.out; omega) hn
                  rw [← hq] at e
                  rwa [e] at this)
                have HKL := Lib.hid hlk
                clear hn hz hj hlk hq hq8
                go_wp2_with fail
                go_roundg (l'.length - (j + 1))
                case measure => have := HM.out; have := HKL.out; omega
                case rel => exact ⟨j + 1, by have := HKL.out; omega, rfl, by first | rfl | go_num, HS.out, KR2.out.far (by simp) _, HRW2.out.set (by omega) _, HBW.out.setCell (by simp) _⟩
              · have hjl : ¬ (j : Int) < (l'.length : Int) := by omega
                have HJE := Lib.hid (show j = l'.length by omega)
                have HANS := Lib.hid (show fillO c1 o l' j = l ++ List.replicate (8 - (l.length + l'.length)) 0 ++ l' by
                  rw [HJE.out, HC1.out, HO.out]
                  exact fill_two l l' (by have := H8.out; omega))
                have KE4 := Lib.hid KR4.out
                rw [HANS.out] at KE4
                obtain ⟨x0, x1, x2, x3, x4, x5, x6, x7, hxs⟩ := eight_of (a := l ++ List.replicate (8 - (l.length + l'.length)) 0 ++ l') (by have := H8.out; simp; omega)
                rw [hxs, cells_eight] at KE4
                have HAns := Lib.hid (show (ansR R) = ([x0, x1, x2, x3, x4, x5, x6, x7], 0) by rw [HN.out, hxs]; rfl)
                clear HN KR4 H8 hj HM HZ hxs HANS HC1 HC1L HO HJE hlk
                have c4_0 : wr.cell? ⟨w.heap.size + 1, 0, none⟩ = some (.int .u16 x0) := KE4.out.cell 0
                have c4_1 : wr.cell? ⟨w.heap.size + 1, 1, none⟩ = some (.int .u16 x1) := KE4.out.cell 1
                have c4_2 : wr.cell? ⟨w.heap.size + 1, 2, none⟩ = some (.int .u16 x2) := KE4.out.cell 2
                have c4_3 : wr.cell? ⟨w.heap.size + 1, 3, none⟩ = some (.int .u16 x3) := KE4.out.cell 3
                have c4_4 : wr.cell? ⟨w.heap.size + 1, 4, none⟩ = some (.int .u16 x4) := KE4.out.cell 4
                have c4_5 : wr.cell? ⟨w.heap.size + 1, 5, none⟩ = some (.int .u16 x5) := KE4.out.cell 5
                have c4_6 : wr.cell? ⟨w.heap.size + 1, 6, none⟩ = some (.int .u16 x6) := KE4.out.cell 6
                have c4_7 : wr.cell? ⟨w.heap.size + 1, 7, none⟩ = some (.int .u16 x7) := KE4.out.cell 7
                have c2_0 : wr.cell? ⟨w.heap.size, 0, none⟩ = some (.int .u16 0) := KR2.out.cell 0
                have c2_1 : wr.cell? ⟨w.heap.size, 1, none⟩ = some (.int .u16 0) := KR2.out.cell 1
                have c2_2 : wr.cell? ⟨w.heap.size, 2, none⟩ = some (.int .u16 0) := KR2.out.cell 2
                have c2_3 : wr.cell? ⟨w.heap.size, 3, none⟩ = some (.int .u16 0) := KR2.out.cell 3
                have c2_4 : wr.cell? ⟨w.heap.size, 4, none⟩ = some (.int .u16 0) := KR2.out.cell 4
                have c2_5 : wr.cell? ⟨w.heap.size, 5, none⟩ = some (.int .u16 0) := KR2.out.cell 5
                have c2_6 : wr.cell? ⟨w.heap.size, 6, none⟩ = some (.int .u16 0) := KR2.out.cell 6
                have c2_7 : wr.cell? ⟨w.heap.size, 7, none⟩ = some (.int .u16 0) := KR2.out.cell 7
                have f2 : ∀ i, wr.frozen? ⟨w.heap.size, i, none⟩ = false := fun i => KR2.out.frozen i
                go_wp2_with fail
                refine bodyPost_ret (results_cell_row2 rfl _ _ w.heap.size 23 _ (0, 0) _ rfl (Blk.set8 KR2.out _ _ _ _ _ _ _ _) Tryz.underlying23 rfl (by kernel_rfl)) rfl ?_
                exact ⟨by rw [HAns.out]; rfl, Below.set8 HBW.out (Nat.le_refl _) _ _ _ _ _ _ _ _⟩
      · have HN := Lib.hid (show R = none by rw [HP.out]; simp [h8])
        have h8' : (7 : Int) < (l.length : Int) + (l'.length : Int) := by omega
        clear HP HL HL' HRow1 HRow2 h8
        have c4_0 : w3.cell? ⟨w.heap.size + 1, 0, none⟩ = some (.int .u16 0) := K43.out.cell 0
        have c4_1 : w3.cell? ⟨w.heap.size + 1, 1, none⟩ = some (.int .u16 0) := K43.out.cell 1
        have c4_2 : w3.cell? ⟨w.heap.size + 1, 2, none⟩ = some (.int .u16 0) := K43.out.cell 2
        have c4_3 : w3.cell? ⟨w.heap.size + 1, 3, none⟩ = some (.int .u16 0) := K43.out.cell 3
        have c4_4 : w3.cell? ⟨w.heap.size + 1, 4, none⟩ = some (.int .u16 0) := K43.out.cell 4
        have c4_5 : w3.cell? ⟨w.heap.size + 1, 5, none⟩ = some (.int .u16 0) := K43.out.cell 5
        have c4_6 : w3.cell? ⟨w.heap.size + 1, 6, none⟩ = some (.int .u16 0) := K43.out.cell 6
        have c4_7 : w3.cell? ⟨w.heap.size + 1, 7, none⟩ = some (.int .u16 0) := K43.out.cell 7
        have c2_0 : w3.cell? ⟨w.heap.size, 0, none⟩ = some (.int .u16 0) := K23.out.cell 0
        have c2_1 : w3.cell? ⟨w.heap.size, 1, none⟩ = some (.int .u16 0) := K23.out.cell 1
        have c2_2 : w3.cell? ⟨w.heap.size, 2, none⟩ = some (.int .u16 0) := K23.out.cell 2
        have c2_3 : w3.cell? ⟨w.heap.size, 3, none⟩ = some (.int .u16 0) := K23.out.cell 3
        have c2_4 : w3.cell? ⟨w.heap.size, 4, none⟩ = some (.int .u16 0) := K23.out.cell 4
        have c2_5 : w3.cell? ⟨w.heap.size, 5, none⟩ = some (.int .u16 0) := K23.out.cell 5
        have c2_6 : w3.cell? ⟨w.heap.size, 6, none⟩ = some (.int .u16 0) := K23.out.cell 6
        have c2_7 : w3.cell? ⟨w.heap.size, 7, none⟩ = some (.int .u16 0) := K23.out.cell 7
        have f2 : ∀ i, w3.frozen? ⟨w.heap.size, i, none⟩ = false := fun i => K23.out.frozen i
        go_wp2_with fail
        refine bodyPost_ret (results_cell_row2 rfl _ _ w.heap.size 23 _ (0, 0) _ rfl (Blk.set8 K23.out _ _ _ _ _ _ _ _) Tryz.underlying23 rfl (by kernel_rfl)) rfl ?_
        exact ⟨by rw [HN.out]; rfl, Below.set8 HB3.out (Nat.le_refl _) _ _ _ _ _ _ _ _⟩
theorem refparse_calls (s : ByteArray) (hs : s.size ≤ 1000) (w : World) : Calls Tryz.prog 12 #[.string s] w (RP w (parse6 s.data.toList)) := by
  cases h : cutL s.data.toList with
  | none => exact refparse_one s hs w h
  | some p =>
    obtain ⟨a, b⟩ := p
    exact refparse_two s hs w a b h

end Go.Proofs.YtodpjdeffhbkpaaGreatDoor

set_option maxRecDepth 100000
namespace Go.Proofs.YtodpjdeffhbkpaaGreatDoor
open Go.RowKit Four Six


set_option maxHeartbeats 4000000 in
theorem parses_calls (s : ByteArray) (w : World) (hF : FW w) (hE : ErrType w) : Calls Tryz.prog 4 #[.string s] w fun e w' => e = .returned (.bool true) ∧ Below w.heap.size w w' := by
  have HF := Lib.hid hF
  have HE := Lib.hid hE
  clear hF hE
  by_cases h80 : (80 : Int) < (s.size : Int)
  · go_enter Tryz.func4, Tryz.ntmps4
    go_wp2_with fail
    refine (awake_calls HF.out).mono ?_
    rintro e w1 ⟨rfl, hb⟩
    go_wp2_with fail
    go_ret
    exact ⟨rfl, hb⟩
  · have hs : s.size ≤ 1000 := by omega
    have hR := fun (W : World) => refparse_calls s hs W
    cases hp : parse6 s.data.toList with
    | none =>
      have HP := Lib.hid (fun (W : World) (h : FW W) => parse_none s hp h hs)
      rw [hp] at hR
      have HR := Lib.hid (show ∀ W, Calls Tryz.prog 12 #[.string s] W fun e w' => e = .returned (.tuple #[.agg #[.int .u16 0, .int .u16 0, .int .u16 0, .int .u16 0, .int .u16 0, .int .u16 0, .int .u16 0, .int .u16 0], .int .i64 2]) ∧ Below W.heap.size W w' from hR)
      have hq : ∀ w, (Op.equalIn 10000 23 (.agg #[.int .u16 0, .int .u16 0, .int .u16 0, .int .u16 0, .int .u16 0, .int .u16 0, .int .u16 0, .int .u16 0]) (.agg #[.int .u16 0, .int .u16 0, .int .u16 0, .int .u16 0, .int .u16 0, .int .u16 0, .int .u16 0, .int .u16 0])).run Tryz.prog w = .ok true w := fun w => eq16 (a := [0, 0, 0, 0, 0, 0, 0, 0]) (b := [0, 0, 0, 0, 0, 0, 0, 0]) rfl rfl rfl rfl w
      have HQ := Lib.hid hq
      clear hR hq hp hs
      go_enter Tryz.func4, Tryz.ntmps4
      go_wp2_with fail
      refine (awake_calls HF.out).mono ?_
      rintro e w1 ⟨rfl, hb⟩
      have H1 := Lib.hid hb
      clear hb
      go_wp2_with fail
      refine (HP.out _ (HF.out.keep H1.out)).mono ?_
      rintro e w2 ⟨⟨t, x, rfl, l, hch⟩, hb⟩
      have HC := Lib.hid (hch.keep ((Below.refl w2.heap.size w2).alloc (Nat.le_refl _) (.cells #[.int .u16 0, .int .u16 0, .int .u16 0, .int .u16 0, .int .u16 0, .int .u16 0, .int .u16 0, .int .u16 0] 23)))
      have H2 := Lib.hid ((belowOn H1.out H1.out.size hb).alloc (by have := H1.out.size; have := hb.size; omega) (.cells #[.int .u16 0, .int .u16 0, .int .u16 0, .int .u16 0, .int .u16 0, .int .u16 0, .int .u16 0, .int .u16 0] 23))
      have K2 := Lib.hid (Blk.new w2 23 #[.int .u16 0, .int .u16 0, .int .u16 0, .int .u16 0, .int .u16 0, .int .u16 0, .int .u16 0, .int .u16 0])
      clear hb HP hch
      go_wp2_with fail
      refine (HR.out _).mono ?_
      rintro e w3 ⟨rfl, hb⟩
      have H3 := Lib.hid (belowOn H2.out H2.out.size hb)
      have HC3 := Lib.hid (HC.out.keep hb)
      have K3 := Lib.hid (K2.out.keep hb)
      have L3 := Lib.hid (Blk.new w3 23 #[.int .u16 0, .int .u16 0, .int .u16 0, .int .u16 0, .int .u16 0, .int .u16 0, .int .u16 0, .int .u16 0])
      clear hb HR K2 HC
      have ca0 : ∀ o, (w3.alloc o).cell? ⟨w2.heap.size, 0, none⟩ = some (.int .u16 0) := fun o => (K3.out.alloc o).cell 0
      have ca1 : ∀ o, (w3.alloc o).cell? ⟨w2.heap.size, 1, none⟩ = some (.int .u16 0) := fun o => (K3.out.alloc o).cell 1
      have ca2 : ∀ o, (w3.alloc o).cell? ⟨w2.heap.size, 2, none⟩ = some (.int .u16 0) := fun o => (K3.out.alloc o).cell 2
      have ca3 : ∀ o, (w3.alloc o).cell? ⟨w2.heap.size, 3, none⟩ = some (.int .u16 0) := fun o => (K3.out.alloc o).cell 3
      have ca4 : ∀ o, (w3.alloc o).cell? ⟨w2.heap.size, 4, none⟩ = some (.int .u16 0) := fun o => (K3.out.alloc o).cell 4
      have ca5 : ∀ o, (w3.alloc o).cell? ⟨w2.heap.size, 5, none⟩ = some (.int .u16 0) := fun o => (K3.out.alloc o).cell 5
      have ca6 : ∀ o, (w3.alloc o).cell? ⟨w2.heap.size, 6, none⟩ = some (.int .u16 0) := fun o => (K3.out.alloc o).cell 6
      have ca7 : ∀ o, (w3.alloc o).cell? ⟨w2.heap.size, 7, none⟩ = some (.int .u16 0) := fun o => (K3.out.alloc o).cell 7
      have hq := HQ.out
      go_wp2_with fail
      refine (code_chain l _ 2 _ (HC3.out.keep ((Below.refl w3.heap.size w3).alloc (Nat.le_refl _) (.cells #[.int .u16 0, .int .u16 0, .int .u16 0, .int .u16 0, .int .u16 0, .int .u16 0, .int .u16 0, .int .u16 0] 23))) (HE.out.keep (H3.out.alloc H3.out.size _))).mono ?_
      rintro e w4 ⟨rfl, hb⟩
      have H4 := Lib.hid (belowOn (H3.out.alloc H3.out.size (.cells #[.int .u16 0, .int .u16 0, .int .u16 0, .int .u16 0, .int .u16 0, .int .u16 0, .int .u16 0, .int .u16 0] 23)) (by have := H3.out.size; simp; omega) hb)
      clear hb hq ca0 ca1 ca2 ca3 ca4 ca5 ca6 ca7
      go_wp2_with fail
      go_ret
      exact ⟨rfl, H4.out⟩
    | some a =>
      have HP := Lib.hid (fun (W : World) (h : FW W) => parse_ok s a hp h hs)
      rw [hp] at hR
      obtain ⟨h8, ha⟩ := parse6_ok hp
      obtain ⟨x0, x1, x2, x3, x4, x5, x6, x7, rfl⟩ := eight_of h8
      have HR := Lib.hid (show ∀ W, Calls Tryz.prog 12 #[.string s] W fun e w' => e = .returned (.tuple #[.agg #[.int .u16 x0, .int .u16 x1, .int .u16 x2, .int .u16 x3, .int .u16 x4, .int .u16 x5, .int .u16 x6, .int .u16 x7], .int .i64 0]) ∧ Below W.heap.size W w' from hR)
      rw [cells_eight] at HP
      have hq := fun w => eq16 (a := [x0, x1, x2, x3, x4, x5, x6, x7]) (b := [x0, x1, x2, x3, x4, x5, x6, x7]) rfl rfl rfl rfl w
      simp only [cells_eight, beq_self_eq_true] at hq
      have HQ := Lib.hid hq
      clear hR hq hp hs h8 ha
      go_enter Tryz.func4, Tryz.ntmps4
      go_wp2_with fail
      refine (awake_calls HF.out).mono ?_
      rintro e w1 ⟨rfl, hb⟩
      have H1 := Lib.hid hb
      clear hb
      go_wp2_with fail
      refine (HP.out _ (HF.out.keep H1.out)).mono ?_
      rintro e w2 ⟨rfl, hb⟩
      have H2 := Lib.hid ((belowOn H1.out H1.out.size hb).alloc (by have := H1.out.size; have := hb.size; omega) (.cells #[.int .u16 x0, .int .u16 x1, .int .u16 x2, .int .u16 x3, .int .u16 x4, .int .u16 x5, .int .u16 x6, .int .u16 x7] 23))
      have K2 := Lib.hid (Blk.new w2 23 #[.int .u16 x0, .int .u16 x1, .int .u16 x2, .int .u16 x3, .int .u16 x4, .int .u16 x5, .int .u16 x6, .int .u16 x7])
      clear hb HP
      go_wp2_with fail
      refine (HR.out _).mono ?_
      rintro e w3 ⟨rfl, hb⟩
      have H3 := Lib.hid (belowOn H2.out H2.out.size hb)
      have K3 := Lib.hid (K2.out.keep hb)
      have L3 := Lib.hid (Blk.new w3 23 #[.int .u16 x0, .int .u16 x1, .int .u16 x2, .int .u16 x3, .int .u16 x4, .int .u16 x5, .int .u16 x6, .int .u16 x7])
      clear hb HR K2
      have ca0 : ∀ o, (w3.alloc o).cell? ⟨w2.heap.size, 0, none⟩ = some (.int .u16 x0) := fun o => (K3.out.alloc o).cell 0
      have ca1 : ∀ o, (w3.alloc o).cell? ⟨w2.heap.size, 1, none⟩ = some (.int .u16 x1) := fun o => (K3.out.alloc o).cell 1
      have ca2 : ∀ o, (w3.alloc o).cell? ⟨w2.heap.size, 2, none⟩ = some (.int .u16 x2) := fun o => (K3.out.alloc o).cell 2
      have ca3 : ∀ o, (w3.alloc o).cell? ⟨w2.heap.size, 3, none⟩ = some (.int .u16 x3) := fun o => (K3.out.alloc o).cell 3
      have ca4 : ∀ o, (w3.alloc o).cell? ⟨w2.heap.size, 4, none⟩ = some (.int .u16 x4) := fun o => (K3.out.alloc o).cell 4
      have ca5 : ∀ o, (w3.alloc o).cell? ⟨w2.heap.size, 5, none⟩ = some (.int .u16 x5) := fun o => (K3.out.alloc o).cell 5
      have ca6 : ∀ o, (w3.alloc o).cell? ⟨w2.heap.size, 6, none⟩ = some (.int .u16 x6) := fun o => (K3.out.alloc o).cell 6
      have ca7 : ∀ o, (w3.alloc o).cell? ⟨w2.heap.size, 7, none⟩ = some (.int .u16 x7) := fun o => (K3.out.alloc o).cell 7
      have hq := HQ.out
      go_wp2_with fail
      refine (code_nil _).mono ?_
      rintro e w4 ⟨rfl, hb⟩
      have H4 := Lib.hid (belowOn (H3.out.alloc H3.out.size (.cells #[.int .u16 x0, .int .u16 x1, .int .u16 x2, .int .u16 x3, .int .u16 x4, .int .u16 x5, .int .u16 x6, .int .u16 x7] 23)) (by have := H3.out.size; simp; omega) hb)
      clear hb hq ca0 ca1 ca2 ca3 ca4 ca5 ca6 ca7
      go_wp2_with fail
      go_ret
      exact ⟨rfl, H4.out⟩
end Go.Proofs.YtodpjdeffhbkpaaGreatDoor
