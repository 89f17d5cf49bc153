/- The law ClockNew, walked: a memo for so many, or what forbids it. -/
import Derived.Test.YtjnghgalniapjaaDoorClockAwake
import Derived.Test.YtjnghgalniapjaaDoorErrCode
set_option linter.unusedVariables false
set_option linter.unusedSimpArgs false
namespace Go.Proofs.YtjnghgalniapjaaDoor
open Go.RowKit

theorem refnew_bad (r : Int) (w : World) (h : r < 1 ∨ 4096 < r) :
    Calls Tryd.prog 6 #[.int .i64 r] w fun e w' => e = .returned (.tuple #[.agg #[.slice none 0 0, .int .i64 0, .int .i64 0], .int .i64 1]) ∧ Below w.heap.size w w' := by
  by_cases h1 : r < 1
  · go_enter Tryd.func6, Tryd.ntmps6
    go_wp2
    exact bodyPost_ret (v := .tuple #[.agg #[.slice none 0 0, .int .i64 0, .int .i64 0], .int .i64 1]) (by simp [results, Tryd.results6, go_sem]) rfl ⟨rfl, (Below.refl _ _).alloc (Nat.le_refl _) _⟩
  · have h2 : 4096 < r := by omega
    go_enter Tryd.func6, Tryd.ntmps6
    go_wp2
    exact bodyPost_ret (v := .tuple #[.agg #[.slice none 0 0, .int .i64 0, .int .i64 0], .int .i64 1]) (by simp [results, Tryd.results6, go_sem]) rfl ⟨rfl, (Below.refl _ _).alloc (Nat.le_refl _) _⟩
theorem refnew_ok (r : Int) (w : World) (h1 : 1 ≤ r) (h2 : r ≤ 4096) :
    Calls Tryd.prog 6 #[.int .i64 r] w fun e w' => e = .returned (.tuple #[.agg #[.slice none 0 0, .int .i64 r, .int .i64 0], .int .i64 0]) ∧ Below w.heap.size w w' := by
  go_enter Tryd.func6, Tryd.ntmps6
  go_wp2
  exact bodyPost_ret (v := .tuple #[.agg #[.slice none 0 0, .int .i64 r, .int .i64 0], .int .i64 0]) (by simp [results, Tryd.results6, go_sem]) rfl ⟨rfl, (Below.refl _ _).alloc (Nat.le_refl _) _⟩

set_option maxHeartbeats 2000000 in
theorem new_calls (r : Int) (w : World) (hg : ErrType w) :
    Calls Tryd.prog 3 #[.int .i64 r] w fun e w' => e = .returned (.bool true) ∧ Below w.heap.size w w' := by
  have HG := Lib.hid hg
  clear hg
  by_cases hr : r < 1 ∨ 4096 < r
  · have HR := Lib.hid hr
    clear hr
    go_enter Tryd.func3, Tryd.ntmps3
    go_wp2_with fail
    refine (awake_calls _).mono ?_
    rintro e w1 ⟨rfl, hb1⟩
    have H1 := Lib.hid hb1
    clear hb1
    go_wp2_with fail
    refine (new_bad _ _ HR.out).mono ?_
    rintro e w2 ⟨v, rfl, hc, hb2⟩
    obtain ⟨t, x, rfl⟩ := hc.iface
    have HC := Lib.hid hc
    have H2 := Lib.hid (belowOn H1.out H1.out.size hb2)
    clear hc hb2
    go_wp2_with fail
    refine (refnew_bad _ _ HR.out).mono ?_
    rintro e w3 ⟨rfl, hb3⟩
    have HC3 := Lib.hid ((HC.out.keep hb3).keep ((Below.refl w3.heap.size w3).alloc (Nat.le_refl _) (.cells #[.slice none 0 0, .int .i64 0, .int .i64 0] 30)))
    have H3 := Lib.hid ((belowOn H2.out H2.out.size hb3).alloc (Nat.le_trans H2.out.size hb3.size) (.cells #[.slice none 0 0, .int .i64 0, .int .i64 0] 30))
    clear hb3
    go_wp2_with fail
    refine (code_chain _ _ 1 _ HC3.out (HG.out.keep H3.out)).mono ?_
    rintro e w4 ⟨rfl, hb4⟩
    have H4 := Lib.hid (belowOn H3.out H3.out.size hb4)
    clear hb4
    go_wp2_with fail
    go_ret
    exact ⟨rfl, H4.out⟩
  · have h1 : 1 ≤ r := by omega
    have h2 : r ≤ 4096 := by omega
    clear hr
    go_enter Tryd.func3, Tryd.ntmps3
    go_wp2_with fail
    refine (awake_calls _).mono ?_
    rintro e w1 ⟨rfl, hb1⟩
    have H1 := Lib.hid hb1
    clear hb1
    go_wp2_with fail
    refine (new_ok _ _ h1 h2).mono ?_
    rintro e w2 ⟨rfl, hm, hb2⟩
    have HM := Lib.hid hm
    have H2 := Lib.hid (belowOn H1.out H1.out.size hb2)
    clear hm hb2
    go_wp2_with fail
    refine (refnew_ok _ _ h1 h2).mono ?_
    rintro e w3 ⟨rfl, hb3⟩
    have HM3 := Lib.hid ((HM.out.keep hb3).keep ((Below.refl w3.heap.size w3).alloc (Nat.le_refl _) (.cells #[.slice none 0 0, .int .i64 r, .int .i64 0] 30)))
    have H3 := Lib.hid ((belowOn H2.out H2.out.size hb3).alloc (Nat.le_trans H2.out.size hb3.size) (.cells #[.slice none 0 0, .int .i64 r, .int .i64 0] 30))
    clear hb3
    go_wp2_with fail
    refine (len_calls HM3.out).mono ?_
    rintro e w4 ⟨rfl, rfl⟩
    go_wp2_with fail
    go_ret
    exact ⟨rfl, H3.out⟩
end Go.Proofs.YtjnghgalniapjaaDoor
