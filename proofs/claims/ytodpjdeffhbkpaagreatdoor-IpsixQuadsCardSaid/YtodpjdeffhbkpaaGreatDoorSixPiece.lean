/- ipsix: a piece; pieces between colons. -/
import Derived.Test.YtodpjdeffhbkpaaGreatDoorSixWalk
import Derived.RegionTactic
import Derived.ChangeAlike
import Derived.BigRegion
set_option linter.unusedVariables false
set_option linter.unusedSimpArgs false
set_option maxRecDepth 100000
namespace Go.Proofs.YtodpjdeffhbkpaaGreatDoor
open Go.RowKit Four Six

def hexSet : List UInt8 := [48, 49, 50, 51, 52, 53, 54, 55, 56, 57, 97, 98, 99, 100, 101, 102, 65, 66, 67, 68, 69, 70]
theorem hexSet_is : ∀ c : UInt8, hexSet.contains c = isHex c := forall_u8 (by decide +kernel)
theorem trim_hex (l : List UInt8) : Lib.trimS l hexSet = [] ↔ l.all isHex = true := by
  have hp : (hexSet.contains ·) = isHex := funext hexSet_is
  unfold Lib.trimS Lib.trimLeftS Lib.trimRightS
  rw [hp, dropWhile_nil, List.all_eq_true]
  constructor
  · intro h
    have hr : l.reverse.dropWhile isHex = [] := by
      cases e : l.reverse.dropWhile isHex with
      | nil => rfl
      | cons x r =>
        have h1 := List.head?_dropWhile_not isHex l.reverse
        rw [e] at h1
        simp only [List.head?_cons] at h1
        have h2 := h x (by rw [e]; simp)
        rw [h2] at h1
        cases h1
    rw [dropWhile_nil] at hr
    intro x hx
    exact hr x (by simpa using hx)
  · intro h
    have hr : l.reverse.dropWhile isHex = [] := (dropWhile_nil _ _).2 fun x hx => h x (by simpa using hx)
    rw [hr]
    intro x hx
    simp at hx
theorem trimh_calls (s : ByteArray) (w : World) (hs : s.size ≤ 1000000) :
    Calls Tryz.prog 44 #[.string s, .string ⟨#[48, 49, 50, 51, 52, 53, 54, 55, 56, 57, 97, 98, 99, 100, 101, 102, 65, 66, 67, 68, 69, 70]⟩] w fun e w' => e = .returned (.string (mkB (Lib.trimS s.data.toList hexSet))) ∧ Below w.heap.size w w' :=
  Any.strings_Trim_laid Tryz.lays160 (by kernel_rfl) s _ w (by omega) (by decide) (ascii_of_all (by decide))
def pieceR : Option Nat → Value
  | none => .tuple #[.int .u16 0, .bool false]
  | some n => .tuple #[.int .u16 n, .bool true]
theorem mkB_empty (l : List UInt8) : (mkB l).toList.isEmpty = decide (l = []) := by
  rw [ByteArray.toList_eq, mkB_data]
  cases l <;> simp
set_option maxHeartbeats 4000000 in
theorem piece_calls (s : ByteArray) {w : World} (hs : s.size ≤ 1000) :
    Calls Tryz.prog 31 #[.string s] w fun e w' => e = .returned (pieceR (pieceL s.data.toList)) ∧ Below w.heap.size w w' := by
  have hsz : s.data.toList.length = s.size := by simp
  by_cases hlen : 1 ≤ s.size ∧ s.size ≤ 4
  · have HT := Lib.hid (trimh_calls s w (by omega))
    by_cases hhex : s.data.toList.all isHex = true
    · have HN := Lib.hid (show pieceL s.data.toList = some (hexV s.data.toList 0) by unfold pieceL; rw [if_pos ⟨by omega, by omega, hhex⟩])
      have he : (mkB (Lib.trimS s.data.toList hexSet)).toList.isEmpty = true := by rw [mkB_empty]; simpa using (trim_hex _).2 hhex
      have HU := Lib.hid (fun w => hexU_calls s hlen.1 hlen.2 hhex w)
      have hv := piece_bound HN.out
      have hw : IntKind.u16.wrap (hexV s.data.toList 0 : Int) = (hexV s.data.toList 0 : Int) := by rw [IntKind.wrap_u16]; omega
      have i1 : ¬ (s.size : Int) < 1 := by omega
      have i2 : ¬ 4 < (s.size : Int) := by omega
      generalize Lib.trimS s.data.toList hexSet = T at HT he
      generalize hexV s.data.toList 0 = V at *
      clear hsz hhex hlen
      go_enter Tryz.func31, Tryz.ntmps31
      go_wp2_with fail
      refine HT.out.mono ?_
      rintro e w1 ⟨rfl, hb⟩
      have HB := Lib.hid hb
      clear hb
      go_wp2_with fail
      refine (HU.out _).mono ?_
      rintro e w2 ⟨rfl, hb2⟩
      have HB2 := Lib.hid (belowOn HB.out HB.out.size hb2)
      clear hb2
      go_wp2_with fail
      go_region
      go_wp2_with fail
      go_ret2
      exact ⟨by rw [HN.out]; rfl, HB2.out.drew⟩
    · have HN := Lib.hid (show pieceL s.data.toList = none by unfold pieceL; rw [if_neg (fun h => hhex h.2.2)])
      have he : (mkB (Lib.trimS s.data.toList hexSet)).toList.isEmpty = false := by rw [mkB_empty]; simpa using fun h => hhex ((trim_hex _).1 h)
      have i1 : ¬ (s.size : Int) < 1 := by omega
      have i2 : ¬ 4 < (s.size : Int) := by omega
      generalize Lib.trimS s.data.toList hexSet = T at HT he
      clear hsz hhex hlen
      go_enter Tryz.func31, Tryz.ntmps31
      go_wp2_with fail
      refine HT.out.mono ?_
      rintro e w1 ⟨rfl, hb⟩
      have HB := Lib.hid hb
      clear hb
      go_wp2_with fail
      go_ret2
      exact ⟨by rw [HN.out]; rfl, HB.out⟩
  · have HN := Lib.hid (show pieceL s.data.toList = none by unfold pieceL; rw [if_neg (fun h => hlen ⟨by omega, by omega⟩)])
    by_cases h0 : s.size = 0
    · have i1 : (s.size : Int) < 1 := by omega
      clear hsz hlen h0
      go_enter Tryz.func31, Tryz.ntmps31
      go_wp2_with fail
      go_ret2
      exact ⟨by rw [HN.out]; rfl, Below.refl _ _⟩
    · have i1 : ¬ (s.size : Int) < 1 := by omega
      have i2 : 4 < (s.size : Int) := by omega
      clear hsz hlen h0
      go_enter Tryz.func31, Tryz.ntmps31
      go_wp2_with fail
      go_ret2
      exact ⟨by rw [HN.out]; rfl, Below.refl _ _⟩
end Go.Proofs.YtodpjdeffhbkpaaGreatDoor
