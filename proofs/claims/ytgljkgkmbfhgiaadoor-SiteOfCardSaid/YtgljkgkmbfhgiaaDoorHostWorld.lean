/- What the world gives the texts of addresses: the table of powers of ten, bytealg.MaxLen, the table of trailing noughts. -/
import Derived.Test.YtgljkgkmbfhgiaaDoorShelf
import Derived.Test.YtgljkgkmbfhgiaaDoorBase
import Derived.Test.YtgljkgkmbfhgiaaDoorBytes
import Derived.Test.YtgljkgkmbfhgiaaDoorSixPure
import Derived.Test.YtgljkgkmbfhgiaaDoorOpen
import Derived.Test.YtgljkgkmbfhgiaaDoorRowR
import Derived.Lib.Hide
set_option linter.unusedVariables false
set_option linter.unusedSimpArgs false
namespace Go.Proofs.YtgljkgkmbfhgiaaDoor
open Go.RowKit Four Six

structure FW (w : World) : Prop where
  tab : Lib.TabIs Tryd.prog w "internal/strconv.uint64pow10" .u64 Lib.pow10Tab
  ml : ∃ m, w.cell? ⟨0, 0, none⟩ = some (.int .i64 m)
  tz : w.cell? ⟨3, 15, none⟩ = some (.int .u8 4)
theorem fw_tab : Tryd.prog.globalNamed "internal/strconv.uint64pow10" = some 1 := by kernel_rfl
theorem FW.keep {w w' : World} (h : FW w) (hb : Below w.heap.size w w') : FW w' := by
  refine ⟨?_, ?_, ?_⟩
  · have := h.tab
    unfold Lib.TabIs World.var? at this ⊢
    rw [fw_tab] at this ⊢
    simp only [Option.bind_some] at this ⊢
    rw [hb.block]
    · exact this
    · rcases Nat.lt_or_ge 1 w.heap.size with h1 | h1
      · exact h1
      · rw [Array.getElem?_eq_none h1] at this; cases this
  · obtain ⟨m, e⟩ := h.ml
    exact ⟨m, (hb.cell (p := ⟨0, 0, none⟩) (World.block_lt_of_cell? w _ e)).trans e⟩
  · exact (hb.cell (p := ⟨3, 15, none⟩) (World.block_lt_of_cell? w _ h.tz)).trans h.tz
def numC (n : Nat) : List Value := [.int .u16 n]
theorem info_u16 : (Tryd.prog.info? 23).map (fun i => (i.zero, i.size, i.bytes)) = some (some (.int .u16 0), 1, 2) := by kernel_rfl
theorem rowN_below {w w' : World} {A : Option Addr} {l : List Nat} {B : Nat} (h : RowAt numC 1 w A l) (hb : Below w.heap.size w w') : RowAt numC 1 w' A l := by
  intro i x hx
  obtain ⟨b, off, rfl, hc⟩ := h i x hx
  refine ⟨b, off, rfl, fun j u hu => ?_⟩
  have := hc j u hu
  exact (hb.cell (p := ⟨b, off + i * 1 + j, none⟩) (World.block_lt_of_cell? w _ this)).trans this

end Go.Proofs.YtgljkgkmbfhgiaaDoor
