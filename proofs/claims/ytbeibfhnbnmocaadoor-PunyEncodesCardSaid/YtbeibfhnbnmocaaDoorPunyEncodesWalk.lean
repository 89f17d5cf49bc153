/- PunyEncodes, walked. -/
import Derived.Test.YtbeibfhnbnmocaaDoorPunyRefEnc
import Derived.Test.YtbeibfhnbnmocaaDoorErrCode
set_option linter.unusedVariables false
set_option linter.unusedSimpArgs false
set_option maxRecDepth 100000
namespace Go.Proofs.YtbeibfhnbnmocaaDoor
open Go.RowKit Go.Proofs.YtbeibfhnbnmocaaDoor.Plain Puny

theorem ref_calls {A : Option Addr} {c : Nat} {l : List Int} (w : World) (hr : RowAt iC 1 w A l) (hl : l.length ≤ 500) (hc : l.length ≤ c) :
    Calls Tryd.prog 7 #[.slice A l.length c] w fun e w' => (e = .returned (.tuple #[.string ⟨if l.all Lib.validRune then (encL (l.map Int.toNat)).toArray else #[]⟩, .int .i64 (if l.all Lib.validRune then 0 else 2)])) ∧ Below w.heap.size w w' := by
  cases hv : l.all Lib.validRune with
  | false => exact ref_odd w hr hl hc hv
  | true =>
    obtain ⟨hcb, hs⟩ := cast_back hv
    obtain ⟨N, hN⟩ : ∃ N, N = l.map Int.toNat := ⟨_, rfl⟩
    have hlen : N.length = l.length := by rw [hN, List.length_map]
    rw [← hN] at hcb hs
    rw [hcb] at hr
    have h := ref_even (A := A) (c := c) (l := N) w hr (by omega) (by omega) hs
    rw [hlen] at h
    rw [← hN]
    exact h
set_option maxHeartbeats 4000000 in
theorem encodes_calls (A : Option Addr) (c : Nat) (l : List Int) (w : World) (hG : ErrType w) (hr : RowAt iC 1 w A l) (hc : l.length ≤ c) :
    Calls Tryd.prog 3 #[.slice A l.length c] w fun e w' => e = .returned (.bool true) ∧ Below w.heap.size w w' := by
  by_cases hl : 60 < l.length
  · have hl' : (60 : Int) < (l.length : Int) := by omega
    go_enter Tryd.func3, Tryd.ntmps3
    go_wp2_with fail
    refine (awake_calls w).mono ?_
    rintro e w1 ⟨rfl, hb⟩
    go_wp2_with fail
    go_ret
    exact ⟨rfl, hb⟩
  · have HR := Lib.hid hr
    have HG := Lib.hid hG
    have HE := Lib.hid (fun w' (hb : Below w.heap.size w w') => encode_calls (A := A) (c := c) (l := l) w' (RowAt.keep HR.out hb) (by omega) hc)
    have HF := Lib.hid (fun w' (hb : Below w.heap.size w w') => ref_calls (A := A) (c := c) (l := l) w' (RowAt.keep HR.out hb) (by omega) hc)
    obtain ⟨n, hn⟩ : ∃ n, n = l.length := ⟨_, rfl⟩
    rw [← hn] at hl hc HE HF ⊢
    have hl' : ¬ (60 : Int) < (n : Int) := by omega
    clear hr hG hn
    go_enter Tryd.func3, Tryd.ntmps3
    go_wp2_with fail
    refine (awake_calls w).mono ?_
    rintro e w1 ⟨rfl, hb⟩
    have HB1 := Lib.hid hb
    clear hb
    go_wp2_with fail
    refine (HE.out w1 HB1.out).mono ?_
    rintro e w2 ⟨he, hb⟩
    have HB2 := Lib.hid (belowOn HB1.out HB1.out.size hb)
    clear hb HE HB1
    cases hv : l.all Lib.validRune with
    | true =>
      unfold EncPost at he
      rw [hv, if_pos rfl] at he
      obtain ⟨rfl, -⟩ := he
      have hF := HF.out w2 HB2.out
      rw [hv, if_pos rfl, if_pos rfl] at hF
      have HF2 := Lib.hid hF
      clear hF HF
      go_wp2_with fail
      refine HF2.out.mono ?_
      rintro e w3 ⟨rfl, hb⟩
      have HB3 := Lib.hid (belowOn HB2.out HB2.out.size hb)
      clear hb HB2 HF2
      go_wp2_with fail
      refine (code_nil _).mono ?_
      rintro e w4 ⟨rfl, hb⟩
      have HB4 := Lib.hid (belowOn HB3.out HB3.out.size hb)
      clear hb
      go_wp2_with fail
      go_ret
      exact ⟨rfl, HB4.out⟩
    | false =>
      unfold EncPost at he
      rw [hv, if_neg (by decide)] at he
      obtain ⟨v, rfl, hch⟩ := he
      have HCH := Lib.hid hch
      obtain ⟨t, x, rfl⟩ := hch.iface
      have hF := HF.out w2 HB2.out
      rw [hv, if_neg (by decide), if_neg (by decide)] at hF
      have HF2 := Lib.hid hF
      clear hF HF hch
      go_wp2_with fail
      refine HF2.out.mono ?_
      rintro e w3 ⟨rfl, hb⟩
      have HB3 := Lib.hid (belowOn HB2.out HB2.out.size hb)
      have HCH3 := Lib.hid (HCH.out.keep hb)
      clear hb HB2 HF2 HCH
      go_wp2_with fail
      refine (code_chain _ _ _ _ HCH3.out (HG.out.keep (HB3.out))).mono ?_
      rintro e w4 ⟨rfl, hb⟩
      have HB4 := Lib.hid (belowOn HB3.out HB3.out.size hb)
      clear hb
      go_wp2_with fail
      go_ret
      exact ⟨rfl, HB4.out⟩
end Go.Proofs.YtbeibfhnbnmocaaDoor
