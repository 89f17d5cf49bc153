/- scheme.May, in the print's form: the closure by its printed contract, slices.IndexFunc and ContainsFunc over a row of bytes. -/
import Derived.Test.YtakbjmmelfcjeaaDoorSchemeHand
import Derived.Test.YtakbjmmelfcjeaaDoorPSchemex5
import Derived.Test.YtakbjmmelfcjeaaDoorPSchemex4
set_option linter.unusedVariables false
set_option linter.unusedSimpArgs false
namespace Go.Proofs.YtakbjmmelfcjeaaDoor
open Go.RowKit Go.Proofs.YtakbjmmelfcjeaaDoorW.PrintWords Go.Proofs.YtakbjmmelfcjeaaDoor.PScheme

def firstAt (p : UInt8 → Bool) (l : List UInt8) : Int := match l.findIdx? p with | some i => i | none => -1
theorem firstAt_any (p : UInt8 → Bool) (l : List UInt8) : decide (0 ≤ firstAt p l) = l.any p := by
  unfold firstAt
  cases h : l.findIdx? p with
  | none =>
    have : l.any p = false := by simpa [List.findIdx?_eq_none_iff] using h
    rw [this]; rfl
  | some i =>
    have : l.any p = true := by
      obtain ⟨hi, hp, _⟩ := List.findIdx?_eq_some_iff_getElem.1 h
      exact List.any_eq_true.2 ⟨_, List.getElem_mem hi, hp⟩
    rw [this]; simp
theorem firstAt_hit {p : UInt8 → Bool} {l : List UInt8} {k : Nat} {c : UInt8} (h : ∀ j c, j < k → l[j]? = some c → p c = false) (hc : l[k]? = some c) (hp : p c = true) : firstAt p l = k := by
  unfold firstAt
  obtain ⟨hl, rfl⟩ := List.getElem?_eq_some_iff.1 hc
  have : l.findIdx? p = some k := List.findIdx?_eq_some_iff_getElem.2 ⟨hl, hp, fun j hj => by simp [h j _ hj (List.getElem?_eq_getElem (by omega))]⟩
  rw [this]
theorem firstAt_none {p : UInt8 → Bool} {l : List UInt8} (h : ∀ j c, j < l.length → l[j]? = some c → p c = false) : firstAt p l = -1 := by
  unfold firstAt
  have : l.findIdx? p = none := List.findIdx?_eq_none_iff.2 fun x hx => by
    obtain ⟨i, hi⟩ := List.getElem?_of_mem hx
    exact h i x (List.getElem?_eq_some_iff.1 hi).1 hi
  rw [this]

theorem indexFunc_calls (g cap : Nat) (l : List UInt8) (p : UInt8 → Bool) (hp : ∀ c : UInt8, scheme_May_1.f (c.toNat : Int) = some (p c)) (w : World) (h : BytesB w g l) (hm : l.length ≤ 140737488351232) :
    Calls Tryd.prog 30 #[.slice (some ⟨g, 0, none⟩) l.length cap, .func (.func 20) #[] #[]] w fun e w' => e = .returned (.int .i64 (firstAt p l)) ∧ Drawn0 w w' := by
  have HP := Lib.hid hp
  have H := Lib.hid h
  clear hp h
  go_enter Tryd.func30, Tryd.ntmps30
  go_wp2_with fail
  go_loopg [8] l.length (fun n v8 w' => Hid (∃ k : Nat, v8 = .int .i64 k ∧ k ≤ l.length ∧ n = l.length - k ∧ (∀ j c, j < k → l[j]? = some c → p c = false) ∧ Drawn0 w w'))
  case atStart => exact ⟨0, rfl, Nat.zero_le _, rfl, fun j c hj => by omega, Drawn0.refl w⟩
  case round =>
    obtain ⟨k, rfl, hk, hn, ha, hw⟩ := hrel.out
    obtain ⟨nd, rfl⟩ := hw.out
    clear hrel hw
    have HNn := Lib.hid hn
    have HA := Lib.hid ha
    clear hn ha
    by_cases hlt : k < l.length
    · obtain ⟨c, hc⟩ : ∃ c, l[k]? = some c := ⟨_, List.getElem?_eq_getElem hlt⟩
      have hcell := (H.out.drewN nd).cell hc
      have HC := Lib.hid hc
      clear hc
      cases hpc : p c with
      | true =>
        have HPC := Lib.hid hpc
        clear hpc
        go_wp2_with fail
        refine (scheme_May_1.calls (c.toNat : Int) true _ (by rw [HP.out, HPC.out])).mono ?_
        rintro e w' ⟨rfl, ⟨n2, rfl⟩⟩
        go_wp2
        go_ret
        exact ⟨by rw [firstAt_hit HA.out HC.out HPC.out]; rfl, ⟨⟨nd + n2, by simp [World.drewN, Nat.add_assoc]⟩⟩⟩
      | false =>
        have HPC := Lib.hid hpc
        clear hpc
        go_wp2_with fail
        refine (scheme_May_1.calls (c.toNat : Int) false _ (by rw [HP.out, HPC.out])).mono ?_
        rintro e w' ⟨rfl, ⟨n2, rfl⟩⟩
        go_wp2
        go_roundg (l.length - (k + 1))
        case measure => have := HNn.out; omega
        case rel =>
          refine ⟨k + 1, by simp, by omega, rfl, fun j d hj hd => ?_, ⟨⟨nd + n2, by simp [World.drewN, Nat.add_assoc]⟩⟩⟩
          by_cases e : j = k
          · subst e
            have := HC.out
            rw [hd] at this
            rw [Option.some.inj this]; exact HPC.out
          · exact HA.out j d (by omega) hd
    · obtain rfl : k = l.length := by omega
      go_wp2
      go_ret
      exact ⟨by rw [firstAt_none HA.out]; rfl, ⟨⟨nd, rfl⟩⟩⟩

theorem containsFunc_calls (g cap : Nat) (l : List UInt8) (n : Nat) (hn : l.length = n) (p : UInt8 → Bool) (hp : ∀ c : UInt8, scheme_May_1.f (c.toNat : Int) = some (p c)) (w : World) (h : BytesB w g l) (hm : n ≤ 140737488351232) :
    Calls Tryd.prog 23 #[.slice (some ⟨g, 0, none⟩) n cap, .func (.func 20) #[] #[]] w fun e w' => e = .returned (.bool (l.any p)) ∧ Drawn0 w w' := by
  have HP := Lib.hid hp
  have H := Lib.hid h
  have HF := Lib.hid (firstAt_any p l)
  subst hn
  clear hp h
  go_enter Tryd.func23, Tryd.ntmps23
  go_wp2_with fail
  refine (indexFunc_calls g cap l p HP.out _ H.out hm).mono ?_
  rintro e w' ⟨rfl, hd⟩
  go_wp2
  go_ret
  exact ⟨by rw [← HF.out]; rfl, hd⟩

theorem _root_.Go.RowKit.Below.of_drewN {w w' : World} {n : Nat} (h : Below (w.drewN n).heap.size (w.drewN n) w') : Below w.heap.size w w' := ⟨h.os, h.tape, h.output, h.size, h.block⟩
def oddB (c : UInt8) : Bool := (scheme_May_1.f (c.toNat : Int)).getD false
def letterB (c : UInt8) : Bool := (scheme_letter.f (c.toNat : Int)).getD false
theorem letter_some (c : UInt8) : scheme_letter.f (c.toNat : Int) = some (letterB c) := by
  unfold letterB scheme_letter.f
  split <;> rfl
theorem odd_some (c : UInt8) : scheme_May_1.f (c.toNat : Int) = some (oddB c) := by
  unfold oddB scheme_May_1.f
  rw [letter_some]
  simp only [Option.bind_some, strings_IndexByte.f]
  split
  · rfl
  · split
    · rfl
    · split <;> rfl
/-- May a text be a scheme? -/
def mayOf (s : ByteArray) : Bool := match s.data.toList with | [] => false | c :: l => letterB c && !(c :: l).any oddB
def scheme_May.f (s : ByteArray) : Option Bool := if s.size ≤ 140737488351232 then some (mayOf s) else none
theorem scheme_May.calls (a0 : ByteArray) (r : Bool) (w : World) (h : scheme_May.f a0 = some r) :
    Calls Tryd.prog 12 #[.string a0] w fun e w' => e = .returned (.bool r) ∧ Below w.heap.size w w' := by
  unfold scheme_May.f at h
  split at h
  · rename_i hs
    obtain rfl := Option.some.inj h
    have hcv := fun w s => Lib.run_convert_string_bytes (P := Tryd.prog) w 9 37 5 s Tryd.underlying9 Tryd.underlying37 Tryd.underlying5
    clear h
    cases hl : a0.data.toList with
    | nil =>
      have hr : mayOf a0 = false := by unfold mayOf; rw [hl]
      rw [hr]
      have he : a0.toList = [] := by rw [ByteArray.toList_eq]; exact hl
      clear hl hr hcv
      go_enter Tryd.func12, Tryd.ntmps12
      go_wp2
      go_ret
      exact ⟨rfl, Below.refl _ _⟩
    | cons c l =>
      have hr : mayOf a0 = (letterB c && !(c :: l).any oddB) := by unfold mayOf; rw [hl]
      rw [hr]
      have he : ¬ a0.toList = [] := by rw [ByteArray.toList_eq, hl]; simp
      have hsz : a0.size = l.length + 1 := by
        have : a0.data.toList.length = a0.size := by simp
        rw [← this, hl]; rfl
      have h0 : (0 : Int) < (a0.size : Int) := by omega
      have hpos : 0 < a0.size := by omega
      have hat : a0[0] = c := by
        have : a0.data.toList[0]? = some c := by rw [hl]; rfl
        have h2 : a0.data[0]? = some c := by simpa using this
        exact (Array.getElem?_eq_some_iff.1 h2).2
      have HAT := Lib.hid hat
      have HE : Hid (a0.toList.isEmpty = false) := Lib.hid (by rw [ByteArray.toList_eq, hl]; rfl)
      have HS := Lib.hid hsz
      have HN2 : ∀ n, Hid (BytesB (Lib.bytesWorld (w.drewN n) 5 a0) w.heap.size (c :: l)) := fun n => Lib.hid (by have := BytesB.new (w.drewN n) a0; rw [hl] at this; exact this)
      clear hl hr hsz hat
      cases hlb : letterB c with
      | false =>
        have HLB := Lib.hid hlb
        clear hlb
        go_enter Tryd.func12, Tryd.ntmps12
        go_wp2_with fail
        refine (scheme_letter.calls _ false _ (by rw [HAT.out, letter_some, HLB.out])).mono ?_
        rintro e w' ⟨rfl, ⟨n2, rfl⟩⟩
        go_wp2
        go_ret
        exact ⟨rfl, pw_below_drewN (Below.refl _ _) n2⟩
      | true =>
        have HLB := Lib.hid hlb
        clear hlb
        go_enter Tryd.func12, Tryd.ntmps12
        go_wp2_with fail
        refine (scheme_letter.calls _ true _ (by rw [HAT.out, letter_some, HLB.out])).mono ?_
        rintro e w' ⟨rfl, ⟨n2, rfl⟩⟩
        go_wp2_with fail
        refine (containsFunc_calls w.heap.size _ (c :: l) a0.size (by rw [HS.out]; rfl) oddB odd_some _ (HN2 n2).out hs).mono ?_
        rintro e w' ⟨rfl, ⟨n3, rfl⟩⟩
        go_wp2
        go_ret
        exact ⟨by simp [HE.out], pw_below_drewN ((bytesWorld_below (w.drewN n2) 5 a0).of_drewN) n3⟩
  · cases h
end Go.Proofs.YtakbjmmelfcjeaaDoor
