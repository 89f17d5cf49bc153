/- The law's awake; a row as a text. -/
import Derived.Test.YtbeibfhnbnmocaaDoorPunyEncode
import Derived.Laws.Cover4
set_option linter.unusedVariables false
set_option linter.unusedSimpArgs false
set_option maxRecDepth 100000
namespace Go.Proofs.YtbeibfhnbnmocaaDoor
open Go.RowKit Go.Proofs.YtbeibfhnbnmocaaDoor.Plain Puny

theorem conv_back {w : World} {B : Nat} {v : Value} {l : List Int} (h : OwnI w B 21 .i32 v l) : (convert 22 9 v).run Tryd.prog w = .ok (.string (runesBytes l)) w := by
  obtain ⟨A, c, rfl, hr, hc, hA⟩ := h.row
  rcases hr with rfl | ⟨b, off, rfl, ⟨cur, hb⟩, hcell⟩
  · cases A with
    | none => rw [run_convert_runes_nil w _ _ 21 _ _ Tryd.underlying22 Tryd.underlying21 Tryd.underlying9]; rfl
    | some ad => exact run_convert_runes w _ _ 21 ad 0 c [] (Nat.le_refl _) Tryd.underlying22 Tryd.underlying21 Tryd.underlying9 (fun j hj => absurd hj (Nat.not_lt_zero _))
  · have := run_convert_runes (P := Tryd.prog) w 22 9 21 ⟨b, off, none⟩ l.length c l (Nat.le_refl _) Tryd.underlying22 Tryd.underlying21 Tryd.underlying9 (fun j hj => by
      rw [add_off]
      rw [hcell j (l.getD j 0) (by rw [List.getD_eq_getElem?_getD, List.getElem?_eq_getElem hj]; rfl)])
    rw [List.take_length] at this
    exact this
theorem row_fresh (w : World) (l : List Int) : RowI .i32 21 (w.alloc (.cells (l.map (Value.int .i32)).toArray 21)) (some ⟨w.heap.size, 0, none⟩) l := by
  refine .inr ⟨w.heap.size, 0, rfl, ⟨_, Blk.new w _ _⟩, fun i y hy => ?_⟩
  rw [(Blk.new w 21 (l.map (Value.int .i32)).toArray).cell]
  simp [hy]
theorem awake_enc : encL ([98, 252, 99, 104, 101, 114] : List Nat) = [98, 99, 104, 101, 114, 45, 107, 118, 97] := by decide +kernel
theorem awake_dec : decL ([109, 110, 99, 104, 101, 110, 45, 51, 121, 97] : List UInt8) = some [109, 252, 110, 99, 104, 101, 110] := by decide +kernel
theorem awake_bad : decL ([97, 45, 33] : List UInt8) = none := by decide +kernel
theorem awake_calls (w : World) : Calls Tryd.prog 5 #[] w fun e w' => e = .returned (.bool true) ∧ Below w.heap.size w w' := by
  have hE := encode_calls (c := 6) _ (RowI.toAt (row_fresh w [98, 252, 99, 104, 101, 114])) (by decide) (by decide)
  have HE := Lib.hid hE
  have HB := Lib.hid ((Below.refl w.heap.size w).alloc (Nat.le_refl _) (.cells (([98, 252, 99, 104, 101, 114] : List Int).map (Value.int .i32)).toArray 21))
  clear hE
  go_enter Tryd.func5, Tryd.ntmps5
  go_wp2_with fail
  refine HE.out.mono ?_
  rintro e w1 ⟨he, hb⟩
  have he2 : e = .returned (.tuple #[.string ⟨#[98, 99, 104, 101, 114, 45, 107, 118, 97]⟩, .nilIface]) := by
    unfold EncPost at he
    rw [if_pos (by decide)] at he
    rw [he.1]
    rw [show ([98, 252, 99, 104, 101, 114] : List Int).map Int.toNat = [98, 252, 99, 104, 101, 114] from rfl, awake_enc]
  subst he2
  have HB1 := Lib.hid (belowOn HB.out HB.out.size hb)
  clear he hb HB HE
  go_wp2_with fail
  refine (decode_calls _ (by decide) _).mono ?_
  rintro e w2 ⟨he, hb⟩
  rw [show decL (⟨#[109, 110, 99, 104, 101, 110, 45, 51, 121, 97]⟩ : ByteArray).data.toList = some [109, 252, 110, 99, 104, 101, 110] from awake_dec] at he
  obtain ⟨v, rfl, hov⟩ := he
  have HO := Lib.hid hov
  have HB2 := Lib.hid (belowOn HB1.out HB1.out.size hb)
  clear hov hb HB1
  go_wp2_with fail
  refine (decode_calls _ (by decide) _).mono ?_
  rintro e w3 ⟨he, hb⟩
  rw [show decL (⟨#[97, 45, 33]⟩ : ByteArray).data.toList = none from awake_bad] at he
  obtain ⟨v2, rfl, hch⟩ := he
  have HO3 := Lib.hid (OwnI.below HO.out hb)
  have HB3 := Lib.hid (belowOn HB2.out HB2.out.size hb)
  have HCH := Lib.hid hch
  obtain ⟨t, x, rfl⟩ := hch.iface
  have hcv := conv_back HO3.out
  rw [show (([109, 252, 110, 99, 104, 101, 110] : List Nat).map fun n : Nat => (n : Int)) = [109, 252, 110, 99, 104, 101, 110] from rfl] at hcv
  clear hb hch HO HB2
  have hq : ((runesBytes [109, 252, 110, 99, 104, 101, 110]).toList == ([109, 195, 188, 110, 99, 104, 101, 110] : List UInt8)) = true := by kernel_rfl
  go_wp2_with (simp only [hcv])
  refine (is_chain _ _ _ 2 _ HCH.out).mono ?_
  rintro e w4 ⟨rfl, rfl⟩
  go_wp2_with fail
  go_ret
  exact ⟨rfl, HB3.out⟩
end Go.Proofs.YtbeibfhnbnmocaaDoor
