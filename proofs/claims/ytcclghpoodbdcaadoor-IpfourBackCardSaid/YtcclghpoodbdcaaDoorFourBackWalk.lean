/- IpfourBack, walked: an address is told there and back, with a dot behind it, too; it ends as one; with a part more it is none. -/
import Derived.Test.YtcclghpoodbdcaaDoorFourAwake
import Derived.Test.YtcclghpoodbdcaaDoorPureLib
set_option linter.unusedVariables false
set_option linter.unusedSimpArgs false
set_option maxRecDepth 100000
namespace Go.Proofs.YtcclghpoodbdcaaDoor
open Go.RowKit Go.Proofs.YtcclghpoodbdcaaDoor.Plain Four

set_option maxHeartbeats 4000000 in
theorem back_calls (a : Nat) (ha : a < 4294967296) (w : World) (hF : FW w) : Calls Tryd.prog 4 #[.int .u32 a] w fun e w' => e = .returned (.bool true) ∧ Below w.heap.size w w' := by
  have HF := Lib.hid hF
  have hl := text_len a
  obtain ⟨T, hT⟩ : ∃ T, T = mkB (textL a) := ⟨_, rfl⟩
  have hz : T.size = (textL a).length := by rw [hT, mkB_size]
  have hd : T.data.toList = textL a := by rw [hT, mkB_data]
  have h1 : (T ++ (⟨#[46]⟩ : ByteArray)).data.toList = textL a ++ [46] := by rw [append_data, hd]
  have h2 : ((⟨#[48, 46]⟩ : ByteArray) ++ T).data.toList = 48 :: 46 :: textL a := by rw [append_data, hd]; rfl
  have z1 : (T ++ (⟨#[46]⟩ : ByteArray)).size = T.size + 1 := by rw [← len_data, h1, hz]; simp
  have z2 : ((⟨#[48, 46]⟩ : ByteArray) ++ T).size = T.size + 2 := by rw [← len_data, h2, hz]; simp
  have ht := fun (W : World) (h : FW W) => text_calls a ha h
  rw [← hT] at ht
  have HT := Lib.hid ht
  have HP0 := Lib.hid (fun (W : World) (h : FW W) => parse_ok T a h (by omega) (by rw [hd]; exact parse_text a ha))
  have HP1 := Lib.hid (fun (W : World) (h : FW W) => parse_ok (T ++ (⟨#[46]⟩ : ByteArray)) a h (by omega) (by rw [h1]; exact parse_text_dot a ha))
  have HP2 := Lib.hid (fun (W : World) (h : FW W) => parse_err ((⟨#[48, 46]⟩ : ByteArray) ++ T) 2 (by decide) h (by omega) (by rw [h2]; exact parse_five a))
  have he : endsL (textL a) = true := ends_of_parse (by rw [parse_text a ha])
  have hE := fun (W : World) (h : FW W) => ends_calls T h (by omega)
  rw [hd, he] at hE
  have HE := Lib.hid hE
  have b0 : (7 : Int) ≤ (T.size : Int) := by omega
  have b1 : (T.size : Int) ≤ 15 := by omega
  clear hF hl hT hz hd h1 h2 z1 z2 ht he hE ha
  go_enter Tryd.func4, Tryd.ntmps4
  go_wp2_with fail
  refine (awake_calls HF.out).mono ?_
  rintro e w1 ⟨rfl, hb⟩
  have H1 := Lib.hid hb
  clear hb
  go_wp2_with fail
  refine (HT.out _ (HF.out.keep H1.out)).mono ?_
  rintro e w2 ⟨rfl, hb⟩
  have H2 := Lib.hid (belowOn H1.out H1.out.size hb)
  clear hb
  go_wp2_with fail
  refine (HP0.out _ (HF.out.keep H2.out)).mono ?_
  rintro e w3 ⟨rfl, hb⟩
  have H3 := Lib.hid (belowOn H2.out H2.out.size hb)
  clear hb
  go_wp2_with fail
  refine (HP1.out _ (HF.out.keep H3.out)).mono ?_
  rintro e w4 ⟨rfl, hb⟩
  have H4 := Lib.hid (belowOn H3.out H3.out.size hb)
  clear hb
  go_wp2_with fail
  refine (HP2.out _ (HF.out.keep H4.out)).mono ?_
  rintro e w5 ⟨⟨t, x, rfl, hc⟩, hb⟩
  have H5 := Lib.hid (belowOn H4.out H4.out.size hb)
  have C5 := Lib.hid hc
  clear hb hc
  go_wp2_with fail
  refine (HE.out _ (HF.out.keep H5.out)).mono ?_
  rintro e w6 ⟨rfl, hb⟩
  have H6 := Lib.hid (belowOn H5.out H5.out.size hb)
  have C6 := Lib.hid (show ∃ l, Chain w6 l (.iface t x) (2 : Nat) from C5.out.imp fun l h => h.keep hb)
  clear hb
  go_wp2_with fail
  refine (isF_calls 2 C6.out).mono ?_
  rintro e w' ⟨rfl, rfl⟩
  go_wp2_with fail
  go_ret
  exact ⟨rfl, H6.out⟩
end Go.Proofs.YtcclghpoodbdcaaDoor
