/- Paths as texts: path.Text, the reference's. -/
import Derived.Test.YtgljkgkmbfhgiaaDoorRecBuild
import Derived.Test.YtgljkgkmbfhgiaaDoorRecPure
import Derived.Test.YtgljkgkmbfhgiaaDoorRegI
import Derived.Lib.UnsafeStr
import Derived.Lib.Hide
import Derived.Deep.LoopGhost
set_option linter.unusedVariables false
set_option linter.unusedSimpArgs false
set_option maxRecDepth 100000
namespace Go.Proofs.YtgljkgkmbfhgiaaDoor
open Go.RowKit Four Six Rec

theorem pathT_snoc (l : List ByteArray) (s : ByteArray) : pathT (l ++ [s]) = pathT l ++ [47] ++ s.data.toList := by
  induction l with
  | nil => simp [pathT]
  | cons t l ih => simp [pathT, ih]
theorem take_snoc {α : Type} {l : List α} {k : Nat} {x : α} (h : l[k]? = some x) : l.take (k + 1) = l.take k ++ [x] := by
  obtain ⟨h1, h2⟩ := List.getElem?_eq_some_iff.1 h
  rw [List.take_succ_eq_append_getElem h1, h2]
theorem pathT_take_len {l : List ByteArray} (hl : l.length ≤ 20) (hs : ∀ s ∈ l, s.size ≤ 60) (k : Nat) : (pathT (l.take k)).length ≤ 1220 := by
  have h1 := pathT_len (l.take k) (fun s h => hs s (List.mem_of_mem_take h))
  have h2 : (l.take k).length ≤ 20 := by rw [List.length_take]; omega
  omega
theorem str_data (s : ByteArray) : (⟨s.data.toList.toArray⟩ : ByteArray) = s := by cases s; rfl
set_option maxHeartbeats 4000000 in
theorem path_calls (A : Option Addr) (c : Nat) (l : List ByteArray) (w : World) (hr : RowAt textC 1 w A l) (hc : l.length ≤ c) (hl : l.length ≤ 20) (hs : ∀ s ∈ l, s.size ≤ 60) :
    Calls Tryd.prog 40 #[.slice A l.length c] w fun e w' => e = .returned (.string (mkB (pathT l))) ∧ Below w.heap.size w w' := by
  have HR := Lib.hid hr
  have HS := Lib.hid hs
  have HL := Lib.hid hl
  clear hr hs hl
  go_enter Tryd.func40, Tryd.ntmps40
  go_wp2_with fail
  have HB0 := Lib.hid (show Below w.heap.size w (w.alloc (.cells #[.pointer none, .slice none 0 0] 85)) from (Below.refl _ _).alloc (Nat.le_refl _) _)
  have HI0 := Lib.hid (show IsB w.heap.size w.heap.size [] (w.alloc (.cells #[.pointer none, .slice none 0 0] 85)) from Lib.fresh_isBuilder _ _ w)
  go_loopg [8] (l.length) (fun m v8 w' => Hid (∃ k : Nat, k ≤ l.length ∧ m = l.length - k ∧ v8 = .int .i64 k ∧ IsB w.heap.size w.heap.size (Lib.byteCells (pathT (l.take k))) w' ∧ Below w.heap.size w w'))
  case atStart => exact ⟨0, by omega, by omega, rfl, by simpa [pathT, Lib.byteCells] using HI0.out, HB0.out⟩
  case round =>
    obtain ⟨k, hk, hm, rfl, hi, hb⟩ := hrel.out
    have HM := Lib.hid hm
    have HI := Lib.hid hi
    have HB := Lib.hid hb
    clear hrel hm hi hb
    by_cases hkl : k < l.length
    · have hkl' : (k : Int) < (l.length : Int) := by omega
      have hw : IntKind.i64.wrap ((k : Int) + 1) = (k : Int) + 1 := by rw [IntKind.wrap_i64]; have := HL.out; omega
      obtain ⟨s, hsk⟩ : ∃ s, l[k]? = some s := ⟨l[k], List.getElem?_eq_getElem hkl⟩
      obtain ⟨b, off, rfl, hcell⟩ := HR.out.keep HB.out k s hsk
      have hc0 : wr.cell? ⟨b, off + k, none⟩ = some (.string s) := by simpa using hcell 0 (.string s) rfl
      have hlen := pathT_take_len HL.out HS.out k
      have hss := HS.out s (List.mem_of_getElem? hsk)
      have HN := Lib.hid (show Lib.byteCells (pathT (l.take (k + 1))) = Lib.byteCells (pathT (l.take k)) ++ [.int .u8 47] ++ Lib.strCells s by
        rw [take_snoc hsk, pathT_snoc, Lib.byteCells_append, Lib.byteCells_append, Lib.strCells_eq]; rfl)
      have HZ := Lib.hid hlen
      have HSZ := Lib.hid hss
      have HKL := Lib.hid hkl
      clear hcell hsk hlen hss hkl hk
      go_wp2_with fail
      refine (wbyte_calls w.heap.size w.heap.size _ 47 wr HI.out (by rw [Lib.byteCells_length]; have := HZ.out; omega) HB.out.size).mono ?_
      rintro e w1 ⟨rfl, hi1, hb1⟩
      have HI1 := Lib.hid hi1
      have HB1 := Lib.hid (HB.out.trans hb1)
      clear hi1 hb1
      go_wp2_with fail
      refine (wstr_calls w.heap.size w.heap.size _ s w1 HI1.out (by rw [List.length_append, Lib.byteCells_length]; have := HZ.out; have := HSZ.out; simp; omega) HB1.out.size).mono ?_
      rintro e w2 ⟨rfl, hi2, hb2⟩
      have HI2 := Lib.hid hi2
      have HB2 := Lib.hid (HB1.out.trans hb2)
      clear hi2 hb2
      go_wp2_with fail
      go_roundg (l.length - (k + 1))
      case measure => have := HM.out; have := HKL.out; omega
      case rel => exact ⟨k + 1, by have := HKL.out; omega, rfl, by first | rfl | go_num, by rw [HN.out]; exact HI2.out, HB2.out⟩
    · have hkl' : ¬ (k : Int) < (l.length : Int) := by omega
      have HI' := Lib.hid (show IsB w.heap.size w.heap.size (Lib.byteCells (pathT l)) wr by
        have := HI.out
        rwa [List.take_of_length_le (by omega)] at this)
      clear HI
      go_wp2_with fail
      refine (Tryd.Builder_String_any w.heap.size w.heap.size (pathT l) wr HI'.out HB.out.size).mono ?_
      rintro e w1 ⟨rfl, hb1⟩
      have HB1 := Lib.hid (HB.out.trans hb1)
      clear hb1
      go_wp2_with fail
      go_ret
      exact ⟨rfl, HB1.out⟩
set_option maxHeartbeats 4000000 in
theorem refpath_calls (A : Option Addr) (c : Nat) (l : List ByteArray) (w : World) (hr : RowAt textC 1 w A l) (hc : l.length ≤ c) (hl : l.length ≤ 20) (hs : ∀ s ∈ l, s.size ≤ 60) :
    Calls Tryd.prog 41 #[.slice A l.length c] w fun e w' => e = .returned (.string (mkB (pathT l))) ∧ Below w.heap.size w w' := by
  have HR := Lib.hid hr
  have HS := Lib.hid hs
  have HL := Lib.hid hl
  clear hr hs hl
  go_enter Tryd.func41, Tryd.ntmps41
  go_wp2_with fail
  go_loopg [4, 3] (l.length) (fun m v4 v3 w' => w = w' ∧ Hid (∃ k : Nat, k ≤ l.length ∧ m = l.length - k ∧ v4 = .int .i64 k ∧ v3 = .string (mkB (pathT (l.take k)))))
  case atStart => exact ⟨rfl, 0, by omega, by omega, rfl, rfl⟩
  case round =>
    obtain ⟨rfl, hrel⟩ := hrel
    obtain ⟨k, hk, hm, rfl, rfl⟩ := hrel.out
    have HM := Lib.hid hm
    clear hrel hm
    by_cases hkl : k < l.length
    · have hkl' : (k : Int) < (l.length : Int) := by omega
      have hw : IntKind.i64.wrap ((k : Int) + 1) = (k : Int) + 1 := by rw [IntKind.wrap_i64]; have := HL.out; omega
      obtain ⟨s, hsk⟩ : ∃ s, l[k]? = some s := ⟨l[k], List.getElem?_eq_getElem hkl⟩
      obtain ⟨b, off, rfl, hcell⟩ := HR.out k s hsk
      have hc0 : w.cell? ⟨b, off + k, none⟩ = some (.string s) := by simpa using hcell 0 (.string s) rfl
      have hlen := pathT_take_len HL.out HS.out k
      have hss := HS.out s (List.mem_of_getElem? hsk)
      obtain ⟨O, hO⟩ : ∃ O, O = mkB (pathT (l.take k)) := ⟨_, rfl⟩
      obtain ⟨O1, hO1⟩ : ∃ O1, O1 = O ++ (⟨#[47]⟩ : ByteArray) := ⟨_, rfl⟩
      have zO : O.size ≤ 1220 := by rw [hO, mkB_size]; exact hlen
      have zO1 : O1.size ≤ 1221 := by rw [hO1, ByteArray.size_append, show (⟨#[47]⟩ : ByteArray).size = 1 from rfl]; omega
      have a1 : ∀ w, (Op.stringOp .add O ⟨#[47]⟩).run Tryd.prog w = .ok (.string O1) w := fun w => by rw [hO1]; exact run_string_add_sum w _ _ (by rw [show (⟨#[47]⟩ : ByteArray).size = 1 from rfl]; omega)
      have a2 : ∀ w, (Op.stringOp .add O1 s).run Tryd.prog w = .ok (.string (O1 ++ s)) w := fun w => run_string_add_sum w _ _ (by omega)
      have HN := Lib.hid (show O1 ++ s = mkB (pathT (l.take (k + 1))) by
        rw [hO1, hO, take_snoc hsk, pathT_snoc]
        apply ByteArray.ext
        simp [mkB, ByteArray.data_append])
      rw [← hO]
      have HKL := Lib.hid hkl
      clear hcell hsk hlen hss hkl hk hO hO1 zO zO1
      go_wp2_with fail
      rw [HN.out]
      go_roundg (l.length - (k + 1))
      case measure => have := HM.out; have := HKL.out; omega
      case rel => exact ⟨rfl, k + 1, by have := HKL.out; omega, rfl, by first | rfl | go_num, rfl⟩
    · have hkl' : ¬ (k : Int) < (l.length : Int) := by omega
      have HE := Lib.hid (show mkB (pathT (l.take k)) = mkB (pathT l) by rw [List.take_of_length_le (by omega)])
      rw [HE.out]
      go_wp2_with fail
      go_ret
      exact ⟨rfl, Below.refl _ _⟩
end Go.Proofs.YtgljkgkmbfhgiaaDoor
