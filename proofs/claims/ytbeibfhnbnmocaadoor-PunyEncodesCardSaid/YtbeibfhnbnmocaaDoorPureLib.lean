/- Plain words for the printed functions: bytes, texts, rounds. -/
import Derived.Test.YtbeibfhnbnmocaaDoorWMore
set_option linter.unusedVariables false
set_option linter.unusedSimpArgs false
namespace Go.Proofs.YtbeibfhnbnmocaaDoor.Plain
open Go.RowKit Go.Proofs.YtbeibfhnbnmocaaDoorW.PrintWords

theorem bt_nat (s : ByteArray) (i : Nat) (c : UInt8) (h : s.data.toList[i]? = some c) : bt s (i : Int) = (c.toNat : Int) := by
  have hi : i < s.size := by have := (List.getElem?_eq_some_iff.1 h).1; simpa using this
  have h2 : s.data[i]? = some c := by simpa using h
  have h3 : s[i] = c := (Array.getElem?_eq_some_iff.1 h2).2
  unfold bt
  rw [dif_pos (by simpa using hi)]
  simp [h3]
theorem byte_some {s : ByteArray} {i : Nat} (h : i < s.size) : ∃ c, s.data.toList[i]? = some c := ⟨_, List.getElem?_eq_getElem (by simpa using h)⟩
theorem len_data (s : ByteArray) : s.data.toList.length = s.size := by simp
theorem wrap_in {x : Int} (h0 : -9223372036854775808 ≤ x) (h1 : x < 9223372036854775808) : wrap64 x = x := by unfold wrap64; omega
theorem data_inj {a b : ByteArray} (h : a.data.toList = b.data.toList) : a = b := by
  cases a with | mk a => cases b with | mk b =>
  cases a with | mk a => cases b with | mk b =>
  simpa using h
theorem toList_inj {a b : ByteArray} (h : a.toList = b.toList) : a = b := data_inj (by rw [← ByteArray.toList_eq, ← ByteArray.toList_eq]; exact h)
theorem toList_iff {a b : ByteArray} : a.toList = b.toList ↔ a = b := ⟨toList_inj, fun h => by rw [h]⟩
theorem take_data (s : ByteArray) (k : Nat) : (s.extract 0 k).data.toList = s.data.toList.take k := by
  obtain ⟨⟨l⟩⟩ := s
  rw [show (ByteArray.mk { toList := l }) = ByteArray.mk l.toArray from rfl, ByteArray.extract_mk l 0 k]
  simp
theorem drop_data (s : ByteArray) (a : Nat) : (s.extract a s.size).data.toList = s.data.toList.drop a := by
  obtain ⟨⟨l⟩⟩ := s
  rw [show (ByteArray.mk { toList := l }) = ByteArray.mk l.toArray from rfl, ByteArray.extract_mk l a _]
  simp [ByteArray.size, List.take_of_length_le]
theorem append_data (a b : ByteArray) : (a ++ b).data.toList = a.data.toList ++ b.data.toList := by simp
theorem Ev.ite {α : Type} {c : Prop} [Decidable c] {f g : Nat → Option α} {r : α} (h1 : c → Ev f r) (h2 : ¬ c → Ev g r) : Ev (fun k => if c then f k else g k) r := by
  by_cases h : c
  · exact Ev.congr (fun k => by rw [if_pos h]) (h1 h)
  · exact Ev.congr (fun k => by rw [if_neg h]) (h2 h)
theorem Ev.some_bind {α β : Type} {a : α} {f : Nat → α → Option β} {r : β} (h : Ev (fun k => f k a) r) : Ev (fun k => (some a).bind (f k)) r := h
/-- A fact on all bytes. -/
theorem all_bytes {p : Nat → Prop} (h : ∀ n : Fin 256, p n.val) (c : UInt8) : p c.toNat := h ⟨c.toNat, c.toNat_lt⟩
end Go.Proofs.YtbeibfhnbnmocaaDoor.Plain
