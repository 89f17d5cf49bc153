/- key.Hash and key.Stripe (without the print's words). -/
import Derived.Test.YtlpjjbkpoaohnaaDoorProg
import Derived.Test.YtlpjjbkpoaohnaaDoorBase
import Derived.WalkKit
import Derived.KernelRfl
import Derived.Lib.Hide
import Derived.Deep.LoopGhost
set_option linter.unusedVariables false
set_option linter.unusedSimpArgs false
namespace Go.Proofs.YtlpjjbkpoaohnaaDoor
open Go.RowKit

theorem byte_some' {s : ByteArray} {i : Nat} (h : i < s.size) : ∃ c, s.data.toList[i]? = some c := ⟨_, List.getElem?_eq_getElem (by simpa using h)⟩
theorem len_data' (s : ByteArray) : s.data.toList.length = s.size := by simp
def hfirst : Int := 14695981039346656037
def hstep (h : Int) (c : UInt8) : Int := IntKind.u64.wrap ((Go.bits .xor .u64 h (IntKind.u64.wrap (c.toNat : Int))) * 1099511628211)
def hashR (l : List UInt8) (h : Int) : Int := l.foldl hstep h
theorem hashR_snoc (l : List UInt8) (c : UInt8) (h : Int) : hashR (l ++ [c]) h = hstep (hashR l h) c := by simp [hashR]
def key_Hash.f (s : ByteArray) : Option Int := if s.size ≤ 140737488351232 then some (hashR s.data.toList hfirst) else none

theorem mix_calls (c : UInt8) (g : Nat) (h : Int) (w : World) (hb : Blk w g 22 #[.int .u64 h]) :
    Calls Tryd.prog 68 #[.int .u8 c.toNat, .pointer (some ⟨g, 0, none⟩)] w fun e w' => e = .returned (.tuple #[]) ∧ w.setCell ⟨g, 0, none⟩ (.int .u64 (hstep h c)) = w' := by
  have c0 := hb.cell 0
  have f0 := hb.frozen 0
  simp only [List.getElem?_toArray, List.getElem?_cons_zero] at c0
  clear hb
  go_enter Tryd.func68, Tryd.ntmps68
  go_wp2
  go_end0
  exact ⟨rfl, rfl⟩

theorem key_Hash.calls (a0 : ByteArray) (r : Int) (w : World) (h : key_Hash.f a0 = some r) :
    Calls Tryd.prog 64 #[.string a0] w fun e w' => e = .returned (.int .u64 r) ∧ Below w.heap.size w w' := by
  unfold key_Hash.f at h
  split at h
  · rename_i hs
    have hr := Option.some.inj h
    have HR := Lib.hid hr
    have HL := Lib.hid (len_data' a0)
    clear h hr
    have hb0 := Blk.new w 22 #[.int .u64 14695981039346656037]
    have HB := Lib.hid (show Blk (w.alloc (.cells #[.int .u64 14695981039346656037] 22)) w.heap.size 22 #[.int .u64 (hashR (a0.data.toList.take 0) hfirst)] from hb0)
    have HW := Lib.hid ((Below.refl w.heap.size w).alloc (Nat.le_refl _) (.cells #[.int .u64 14695981039346656037] 22))
    clear hb0
    go_enter Tryd.func64, Tryd.ntmps64
    go_wp2_with fail
    generalize w.alloc (.cells #[.int .u64 14695981039346656037] 22) = W at HB HW ⊢
    go_loopg [9] a0.size (fun m v9 w' => Hid (∃ k : Nat, v9 = .int .i64 k ∧ k ≤ a0.size ∧ m = a0.size - k ∧ Blk w' w.heap.size 22 #[.int .u64 (hashR (a0.data.toList.take k) hfirst)] ∧ Below w.heap.size w w'))
    case atStart => exact ⟨0, rfl, Nat.zero_le _, rfl, HB.out, HW.out⟩
    case round =>
      obtain ⟨k, rfl, hk, hm, hb, hw⟩ := hrel.out
      clear hrel HB HW
      have HM := Lib.hid hm
      have HB := Lib.hid hb
      have HW := Lib.hid hw
      clear hm hb hw
      by_cases hlt : k < a0.size
      · obtain ⟨c, hc⟩ := byte_some' hlt
        have hat : a0[k] = c := by
          have h2 : a0.data[k]? = some c := by simpa using hc
          exact (Array.getElem?_eq_some_iff.1 h2).2
        have HC := Lib.hid hc
        have HAT := Lib.hid hat
        clear hc hat
        go_wp2_with fail
        rw [HAT.out]
        refine (mix_calls c w.heap.size _ wr HB.out).mono ?_
        rintro e w2 ⟨rfl, rfl⟩
        go_wp2_with fail
        go_roundg (a0.size - (k + 1))
        case measure => have := HM.out; omega
        case rel =>
          have hb2 := HB.out.set_ 0 (.int .u64 (hstep (hashR (a0.data.toList.take k) hfirst) c))
          simp only [List.setIfInBounds_toArray, List.set_cons_zero] at hb2
          have htk : a0.data.toList.take (k + 1) = a0.data.toList.take k ++ [c] := by
            obtain ⟨hl, hg⟩ := List.getElem?_eq_some_iff.1 HC.out
            rw [List.take_succ_eq_append_getElem hl, hg]
          exact ⟨k + 1, by simp, by omega, rfl, by rw [htk, hashR_snoc]; exact hb2, HW.out.setCell (p := ⟨w.heap.size, 0, none⟩) (Nat.le_refl _) _⟩
      · obtain rfl : k = a0.size := by omega
        have hb := HB.out
        rw [List.take_of_length_le (by rw [HL.out]; exact Nat.le_refl _), HR.out] at hb
        have c0 := hb.cell 0
        simp only [List.getElem?_toArray, List.getElem?_cons_zero] at c0
        clear hb
        go_wp2
        go_ret
        exact ⟨rfl, HW.out⟩
  · cases h
theorem hstep_range (h : Int) (c : UInt8) : 0 ≤ hstep h c ∧ hstep h c < 18446744073709551616 := by
  unfold hstep
  have := IntKind.wrap_u64 (bits .xor .u64 h (IntKind.u64.wrap (c.toNat : Int)) * 1099511628211)
  rw [this]
  omega
theorem hashR_range (l : List UInt8) : ∀ h : Int, (0 ≤ h ∧ h < 18446744073709551616) → 0 ≤ hashR l h ∧ hashR l h < 18446744073709551616 := by
  induction l with
  | nil => intro h hh; exact hh
  | cons c l ih => intro h _; exact ih _ (hstep_range h c)
/-- The stripe of a text, of n. -/
def stripeN (k : ByteArray) (n : Nat) : Nat := (hashR k.data.toList hfirst).toNat % n
theorem stripeN_lt (k : ByteArray) {n : Nat} (h : 1 ≤ n) : stripeN k n < n := Nat.mod_lt _ h
theorem stripe_calls (k : ByteArray) (n : Nat) (hn : 1 ≤ n) (hn2 : n ≤ 1000) (hk : k.size ≤ 1000000) (w : World) :
    Calls Tryd.prog 52 #[.string k, .int .i64 n] w fun e w' => e = .returned (.int .i64 (stripeN k n)) ∧ Below w.heap.size w w' := by
  have hr := hashR_range k.data.toList hfirst (by unfold hfirst; omega)
  have e1 : decide ((n : Int) < 1) = false := by simp; omega
  have e2 : IntKind.u64.wrap (n : Int) = n := by rw [IntKind.wrap_u64]; omega
  have e3 : ¬ n = 0 := by omega
  have HC := Lib.hid (key_Hash.calls k (hashR k.data.toList hfirst) w (by unfold key_Hash.f; rw [if_pos (by omega)]))
  have e4 : ((hashR k.data.toList hfirst).tmod (n : Int)) = (stripeN k n : Nat) := by
    rw [Int.tmod_eq_emod_of_nonneg hr.1]
    unfold stripeN
    have h9 : (hashR k.data.toList hfirst) = ((hashR k.data.toList hfirst).toNat : Int) := by omega
    rw [Int.natCast_emod, ← h9]
  have e5 : IntKind.i64.wrap ((stripeN k n : Nat) : Int) = (stripeN k n : Nat) := by have := stripeN_lt k hn; rw [IntKind.wrap_i64]; omega
  generalize hashR k.data.toList hfirst = H at HC e4 hr
  generalize stripeN k n = S at e4 e5 ⊢
  clear hr hk
  go_enter Tryd.func52, Tryd.ntmps52
  go_wp2_with fail
  refine HC.out.mono ?_
  rintro e w1 ⟨rfl, hb⟩
  have HB := Lib.hid hb
  clear hb HC
  go_wp2_with fail
  go_ret
  exact ⟨rfl, HB.out⟩
end Go.Proofs.YtlpjjbkpoaohnaaDoor
