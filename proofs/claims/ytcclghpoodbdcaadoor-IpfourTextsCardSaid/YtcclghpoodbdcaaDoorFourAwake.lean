/- The laws of ipfour: awake. -/
import Derived.Test.YtcclghpoodbdcaaDoorFourText
set_option linter.unusedVariables false
set_option linter.unusedSimpArgs false
set_option maxRecDepth 100000
namespace Go.Proofs.YtcclghpoodbdcaaDoor
open Go.RowKit Four

theorem parse_ok (s : ByteArray) (a : Nat) {w : World} (hF : FW w) (hs : s.size ≤ 1000) (h : parseL s.data.toList = (a, 0)) :
    Calls Tryd.prog 10 #[.string s] w fun e w' => e = .returned (.tuple #[.int .u32 a, .nilIface]) ∧ Below w.heap.size w w' := by
  have hc := parse_calls s hF hs
  rw [h] at hc
  refine hc.mono ?_
  rintro e w' ⟨⟨v, rfl, hv⟩, hb⟩
  rcases hv with ⟨_, rfl⟩ | ⟨h0, _⟩
  · exact ⟨rfl, hb⟩
  · exact absurd rfl h0
theorem parse_err (s : ByteArray) (c : Nat) (h0 : c ≠ 0) {w : World} (hF : FW w) (hs : s.size ≤ 1000) (h : parseL s.data.toList = (0, c)) :
    Calls Tryd.prog 10 #[.string s] w fun e w' => (∃ t x, e = .returned (.tuple #[.int .u32 0, .iface t x]) ∧ ∃ l, Chain w' l (.iface t x) c) ∧ Below w.heap.size w w' := by
  have hc := parse_calls s hF hs
  rw [h] at hc
  refine hc.mono ?_
  rintro e w' ⟨⟨v, rfl, hv⟩, hb⟩
  rcases hv with ⟨h1, _⟩ | ⟨_, l, hl⟩
  · exact absurd h1 h0
  · obtain ⟨t, x, rfl⟩ := hl.iface
    exact ⟨⟨t, x, rfl, l, hl⟩, hb⟩
theorem isF_calls {v : Value} {c : Nat} (d : Nat) {w : World} (h : ∃ l, Chain w l v (c : Int)) : Calls Tryd.prog 12 #[v, .iface 32 (.int .i64 d)] w fun e w' => e = .returned (.bool (decide (c = d))) ∧ w = w' := by
  obtain ⟨l, h⟩ := h
  refine (is_chain l v c d w h).mono ?_
  rintro e w' ⟨rfl, rfl⟩
  refine ⟨?_, rfl⟩
  congr 2
  by_cases e : c = d
  · subst e; simp
  · have : ¬ (c : Int) = (d : Int) := by omega
    simp [e, this]

theorem dec127 : Lib.decDigits 127 = [49, 50, 55] := by
  rw [dec_ge (by decide), dec_ge (by decide), dec_lt (by decide)]; rfl
theorem text127 : textL 2130706433 = [49, 50, 55, 46, 48, 46, 48, 46, 49] := by
  rw [textL_eq]
  have h0 : dN 2130706433 0 = [49, 50, 55] := dec127
  have h1 : dN 2130706433 1 = [48] := dec_lt (by decide)
  have h2 : dN 2130706433 2 = [48] := dec_lt (by decide)
  have h3 : dN 2130706433 3 = [49] := dec_lt (by decide)
  rw [h0, h1, h2, h3]; rfl
set_option maxHeartbeats 4000000 in
theorem awake_calls {w : World} (hF : FW w) : Calls Tryd.prog 7 #[] w fun e w' => e = .returned (.bool true) ∧ Below w.heap.size w w' := by
  have HF := Lib.hid hF
  clear hF
  go_enter Tryd.func7, Tryd.ntmps7
  go_wp2_with fail
  refine (parse_ok ⟨#[48, 120, 55, 102, 46, 49]⟩ 2130706433 HF.out (by decide) (by decide +kernel)).mono ?_
  rintro e w1 ⟨rfl, hb⟩
  have H1 := Lib.hid hb
  clear hb
  go_wp2_with fail
  refine (parse_err ⟨#[49, 46, 50, 46, 51, 46, 52, 46, 53]⟩ 2 (by decide) (HF.out.keep H1.out) (by decide) (by decide +kernel)).mono ?_
  rintro e w2 ⟨⟨t1, x1, rfl, hc1⟩, hb⟩
  have H2 := Lib.hid (belowOn H1.out H1.out.size hb)
  have C1 := Lib.hid hc1
  clear hb hc1
  go_wp2_with fail
  refine (parse_err ⟨#[50, 53, 54, 46, 49]⟩ 3 (by decide) (HF.out.keep H2.out) (by decide) (by decide +kernel)).mono ?_
  rintro e w3 ⟨⟨t2, x2, rfl, hc2⟩, hb⟩
  have H3 := Lib.hid (belowOn H2.out H2.out.size hb)
  have C2 := Lib.hid hc2
  have C1' := Lib.hid (show ∃ l, Chain w3 l (.iface t1 x1) (2 : Nat) from C1.out.imp fun l h => h.keep hb)
  clear hb hc2 C1
  have ht := text_calls 2130706433 (by decide) (HF.out.keep H3.out)
  rw [text127] at ht
  have HT := Lib.hid ht
  clear ht
  go_wp2_with fail
  refine HT.out.mono ?_
  rintro e w4 ⟨rfl, hb⟩
  have H4 := Lib.hid (belowOn H3.out H3.out.size hb)
  have C1 := Lib.hid (show ∃ l, Chain w4 l (.iface t1 x1) (2 : Nat) from C1'.out.imp fun l h => h.keep hb)
  have C2' := Lib.hid (show ∃ l, Chain w4 l (.iface t2 x2) (3 : Nat) from C2.out.imp fun l h => h.keep hb)
  clear hb C1' C2 HT
  unfold mkB
  go_wp2_with fail
  have he := ends_calls ⟨#[97, 46, 48, 57, 46]⟩ (HF.out.keep H4.out) (by decide)
  rw [show endsL (ByteArray.mk #[97, 46, 48, 57, 46]).data.toList = true by decide +kernel] at he
  refine he.mono ?_
  clear he
  rintro e w5 ⟨rfl, hb⟩
  have H5 := Lib.hid (belowOn H4.out H4.out.size hb)
  have C1' := Lib.hid (show ∃ l, Chain w5 l (.iface t1 x1) (2 : Nat) from C1.out.imp fun l h => h.keep hb)
  have C2 := Lib.hid (show ∃ l, Chain w5 l (.iface t2 x2) (3 : Nat) from C2'.out.imp fun l h => h.keep hb)
  clear hb C1 C2'
  go_wp2_with fail
  have he := ends_calls ⟨#[97, 46, 98]⟩ (HF.out.keep H5.out) (by decide)
  rw [show endsL (ByteArray.mk #[97, 46, 98]).data.toList = false by decide +kernel] at he
  refine he.mono ?_
  clear he
  rintro e w6 ⟨rfl, hb⟩
  have H6 := Lib.hid (belowOn H5.out H5.out.size hb)
  have C1 := Lib.hid (show ∃ l, Chain w6 l (.iface t1 x1) (2 : Nat) from C1'.out.imp fun l h => h.keep hb)
  have C2' := Lib.hid (show ∃ l, Chain w6 l (.iface t2 x2) (3 : Nat) from C2.out.imp fun l h => h.keep hb)
  clear hb C1' C2
  go_wp2_with fail
  refine (isF_calls 2 C1.out).mono ?_
  rintro e w' ⟨rfl, rfl⟩
  go_wp2_with fail
  refine (isF_calls 3 C2'.out).mono ?_
  rintro e w' ⟨rfl, rfl⟩
  go_wp2_with fail
  go_ret
  exact ⟨rfl, H6.out⟩
end Go.Proofs.YtcclghpoodbdcaaDoor
