/- The law ClockNobody, walked: a memo that is nil keeps nothing. -/
import Derived.Test.YtjnghgalniapjaaClockAwake
set_option linter.unusedSimpArgs false
set_option linter.unusedVariables false
namespace Go.Proofs.Ytjnghgalniapjaa
open Go.RowKit

set_option maxHeartbeats 1000000 in
theorem nobody_calls (k : ByteArray) (ver : Int) (w : World) : Calls Try.prog 6 #[.string k, .int .i64 ver] w fun e w' => e = .returned (.bool true) ∧ Below w.heap.size w w' := by
  go_enter Try.func6, Try.ntmps6
  go_wp2_with fail
  refine (awake_calls _).mono ?_
  rintro e w1 ⟨rfl, hb⟩
  have HB := Lib.hid hb
  clear hb
  go_wp2_with (first | (go_at_call 16; refine (put_nil _ _ _ _).mono ?_; rintro e w' ⟨rfl, rfl⟩) | (go_at_call 14; refine (get_nil _ _ _).mono ?_; rintro e w' ⟨rfl, rfl⟩) | (go_at_call 13; refine (len_nil _).mono ?_; rintro e w' ⟨rfl, rfl⟩))
  go_ret
  exact ⟨rfl, HB.out⟩
end Go.Proofs.Ytjnghgalniapjaa
