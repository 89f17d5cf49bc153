/- record.when. -/
import Derived.Test.YtgljkgkmbfhgiaaDoorRecPath
import Derived.Test.YtgljkgkmbfhgiaaDoorHostFour
set_option linter.unusedVariables false
set_option linter.unusedSimpArgs false
set_option maxRecDepth 100000
namespace Go.Proofs.YtgljkgkmbfhgiaaDoor
open Go.RowKit Four Six Rec

def flat (l : List ByteArray) : List UInt8 := l.flatMap (·.data.toList)
theorem join_empty : ∀ l : List (List UInt8), Lib.join l [] = l.flatten
  | [] => rfl
  | [x] => by simp [Lib.join, List.intercalate]
  | x :: y :: r => by
    have ih := join_empty (y :: r)
    simp only [Lib.join, List.intercalate, List.intersperse] at ih ⊢
    rw [List.flatten_cons, List.flatten_cons, ih]
    simp
theorem flat_is (l : List ByteArray) : Lib.join (l.map (·.data.toList)) (ByteArray.mk #[]).data.toList = flat l := by
  show Lib.join _ [] = _
  rw [join_empty]
  unfold flat
  rw [List.flatMap_def]
theorem when_calls (b : Bool) (g : Nat) (l : List ByteArray) (w : World) (hg : g < w.heap.size) (hr : RowAt textC 1 w (some ⟨g, 0, none⟩) l) (hn : l.length ≤ 100) (hz : b = true → (flat l).length ≤ 1000000) :
    Calls Tryd.prog 36 #[.bool b, .slice (some ⟨g, 0, none⟩) l.length l.length] w fun e w' => e = .returned (.string (mkB (when b (flat l)))) ∧ Below w.heap.size w w' := by
  cases b
  · go_enter Tryd.func36, Tryd.ntmps36
    go_wp2_with fail
    go_ret
    exact ⟨rfl, Below.refl _ _⟩
  · have HC := Lib.hid (show Calls Tryd.prog 50 #[.slice (some ⟨g, 0, none⟩) l.length l.length, .string ⟨#[]⟩] w fun e w' => e = .returned (.string (mkB (when true (flat l)))) ∧ Below w.heap.size w w' by
      have h := Tryd.strings_Join g 0 l.length l ⟨#[]⟩ w (fun j x hx => by
        obtain ⟨b', off, e, hc⟩ := hr j x hx
        injection e with e
        injection e with e1 e2
        subst e1 e2
        simpa using hc 0 (.string x) rfl) hg (by omega) (Nat.le_refl _) (by rw [flat_is]; have := hz rfl; omega)
      rw [flat_is] at h
      refine h.mono ?_
      rintro e w' ⟨rfl, hb⟩
      exact ⟨rfl, hb⟩)
    clear hr hz
    go_enter Tryd.func36, Tryd.ntmps36
    go_wp2_with fail
    refine HC.out.mono ?_
    rintro e w1 ⟨rfl, hb⟩
    have HB := Lib.hid hb
    clear hb
    go_wp2_with fail
    go_ret
    exact ⟨rfl, HB.out⟩
end Go.Proofs.YtgljkgkmbfhgiaaDoor
