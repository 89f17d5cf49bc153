/- The clock's acts: a list of acts that is handed in, whether it is small, and one act done. -/
import Derived.Test.YtjnghgalniapjaaClockAwake
import Derived.Test.YtjnghgalniapjaaOpen
import Derived.Test.YtjnghgalniapjaaClockTruePure
import Derived.LoopTactic
set_option linter.unusedSimpArgs false
set_option linter.unusedVariables false
namespace Go.Proofs.Ytjnghgalniapjaa
open Go.RowKit

def Act.cells (a : Act) : List Value := [.bool a.put, .string a.k, .int .i64 a.ver, .string a.v]
/-- Act i's cells, as the walk spells their places. -/
theorem act_at {w : World} {A : Option Addr} {l : List Act} (h : RowAt Act.cells 4 w A l) {i : Nat} {a : Act} (hi : l[i]? = some a) :
    ∃ b off, A = some ⟨b, off, none⟩ ∧ w.cell? ⟨b, off + i * 4, none⟩ = some (.bool a.put) ∧ w.cell? ⟨b, off + i * 4 + 1, none⟩ = some (.string a.k) ∧ w.cell? ⟨b, off + i * 4 + 2, none⟩ = some (.int .i64 a.ver) ∧ w.cell? ⟨b, off + i * 4 + 3, none⟩ = some (.string a.v) := by
  obtain ⟨b, off, e, hc⟩ := h i a hi
  exact ⟨b, off, e, hc 0 _ rfl, hc 1 _ rfl, hc 2 _ rfl, hc 3 _ rfl⟩

def FewSaid (l : List Act) (w : World) (e : Ending) (w' : World) : Prop := ∃ b, e = .returned (.bool b) ∧ (b = true → l.length ≤ 40) ∧ w = w'

set_option maxHeartbeats 1000000 in
theorem few_calls (A : Option Addr) (c : Nat) (l : List Act) (w : World) (h : RowAt Act.cells 4 w A l) (hlc : l.length ≤ maxLen) :
    Calls Try.prog 8 #[.slice A l.length c] w (FewSaid l w) := by
  unfold maxLen at hlc
  have H := Lib.hid h
  clear h
  go_enter Try.func8, Try.ntmps8
  go_wp2
  go_loopg [3] l.length (fun n v3 w' => w = w' ∧ Hid (∃ i : Nat, v3 = .int .i64 i ∧ i ≤ l.length ∧ n = l.length - i))
  case atStart => exact ⟨rfl, 0, rfl, Nat.zero_le _, rfl⟩
  case round =>
    obtain ⟨rfl, hh⟩ := hrel
    obtain ⟨i, rfl, hi, hn⟩ := hh.out
    clear hh
    have HN := Lib.hid hn
    clear hn
    by_cases hlt : i < l.length
    · obtain ⟨a, ha⟩ : ∃ a, l[i]? = some a := ⟨l[i]'hlt, List.getElem?_eq_getElem hlt⟩
      obtain ⟨b, off, rfl, c0, c1, c2, c3⟩ := act_at H.out ha
      clear ha c0 c2 H
      by_cases h41 : i < 41
      · go_wp2
        all_goals first
          | (go_ret; exact ⟨false, rfl, fun h => by simp at h, rfl⟩)
          | (go_roundg (l.length - (i + 1))
             case measure => have := HN.out; omega
             case rel => exact ⟨rfl, i + 1, by simp, by omega, rfl⟩)
      · go_wp2
        go_ret
        by_cases h40 : l.length ≤ 40
        · omega
        · exact ⟨false, by simp; omega, fun h => by simp at h, rfl⟩
    · go_wp2
      go_ret
      by_cases h40 : l.length ≤ 40
      · exact ⟨true, by simp; omega, fun _ => h40, rfl⟩
      · exact ⟨false, by simp; omega, fun h => by simp at h, rfl⟩

set_option maxHeartbeats 1000000 in
theorem do_calls {w : World} {base b mb : Nat} {pv : Value} {m : Memo} (h : MemoAt w base b mb pv m) (hbase : base ≤ w.heap.size) (a : Act) :
    Calls Try.prog 11 #[.pointer (some ⟨b, 0, none⟩), .agg #[.bool a.put, .string a.k, .int .i64 a.ver, .string a.v]] w fun e w' =>
      e = .returned (.tuple #[.string (doM m a).2.1, .bool (doM m a).2.2]) ∧ (∃ pv', MemoAt w' base b mb pv' (doM m a).1) ∧ Fr w w' (MemoFp b mb pv) := by
  have H1 := h.keep ((Below.refl _ _).alloc (Nat.le_refl _) (.cells #[.bool a.put, .string a.k, .int .i64 a.ver, .string a.v] 38))
  have F1 := (Fr.refl w (MemoFp b mb pv)).alloc (.cells #[.bool a.put, .string a.k, .int .i64 a.ver, .string a.v] 38)
  have hs : base ≤ (w.alloc (.cells #[.bool a.put, .string a.k, .int .i64 a.ver, .string a.v] 38)).heap.size := by simp; omega
  have HH := Lib.hid H1
  have HF := Lib.hid F1
  clear h H1 F1
  obtain ⟨put, k, ver, v⟩ := a
  cases put with
  | true =>
    go_enter Try.func11, Try.ntmps11
    go_wp2_with fail
    refine (put_calls HH.out hs _ _ _).mono ?_
    rintro e w2 ⟨rfl, hM2, hF2⟩
    have HM2 := Lib.hid hM2
    have HF2 := Lib.hid hF2
    clear hM2 hF2
    go_wp2
    go_ret2
    exact ⟨rfl, HM2.out, HF.out.trans HF2.out (fun i h => .inl h)⟩
  | false =>
    go_enter Try.func11, Try.ntmps11
    go_wp2_with fail
    refine (get_calls HH.out _ _).mono ?_
    rintro e w2 ⟨rfl, hM2, hF2⟩
    have HM2 := Lib.hid hM2
    have HF2 := Lib.hid hF2
    clear hM2 hF2
    go_wp2
    go_ret2
    exact ⟨rfl, ⟨_, HM2.out⟩, HF.out.trans HF2.out (fun i h => .inl h)⟩
end Go.Proofs.Ytjnghgalniapjaa
