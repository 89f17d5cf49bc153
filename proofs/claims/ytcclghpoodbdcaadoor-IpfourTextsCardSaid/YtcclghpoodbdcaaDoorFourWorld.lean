/- What the world gives ipfour: the table of powers of ten, and bytealg.MaxLen; a name's parts. -/
import Derived.Test.YtcclghpoodbdcaaDoorShelf
import Derived.Test.YtcclghpoodbdcaaDoorBase
import Derived.Test.YtcclghpoodbdcaaDoorFourPure
import Derived.Shelf.Strings.SlTrimAscii
import Derived.Lib.Hide
set_option linter.unusedVariables false
set_option linter.unusedSimpArgs false
namespace Go.Proofs.YtcclghpoodbdcaaDoor
open Go.RowKit Four

structure FW (w : World) : Prop where
  tab : Lib.TabIs Tryd.prog w "internal/strconv.uint64pow10" .u64 Lib.pow10Tab
  ml : ∃ m, w.cell? ⟨1, 0, none⟩ = some (.int .i64 m)
theorem fw_tab : Tryd.prog.globalNamed "internal/strconv.uint64pow10" = some 0 := by kernel_rfl
theorem FW.keep {w w' : World} (h : FW w) (hb : Below w.heap.size w w') : FW w' := by
  refine ⟨?_, ?_⟩
  · have := h.tab
    unfold Lib.TabIs World.var? at this ⊢
    rw [fw_tab] at this ⊢
    simp only [Option.bind_some] at this ⊢
    rw [hb.block]
    · exact this
    · rcases Nat.lt_or_ge 0 w.heap.size with h1 | h1
      · exact h1
      · rw [Array.getElem?_eq_none h1] at this; cases this
  · obtain ⟨m, e⟩ := h.ml
    exact ⟨m, (hb.cell (p := ⟨1, 0, none⟩) (World.block_lt_of_cell? w _ e)).trans e⟩

/-- Block b begins with these texts. -/
def RowS (w : World) (b : Nat) (l : List (List UInt8)) : Prop := ∃ cs, Blk w b 9 cs ∧ ∀ (i : Nat) (x : List UInt8), l[i]? = some x → cs[i]? = some (.string (mkB x))
theorem RowS.keep {w w' : World} {b : Nat} {l : List (List UInt8)} (h : RowS w b l) (hb : Below w.heap.size w w') : RowS w' b l := by
  obtain ⟨cs, h1, h2⟩ := h
  exact ⟨cs, h1.keep hb, h2⟩
theorem RowS.lt {w : World} {b : Nat} {l : List (List UInt8)} (h : RowS w b l) : b < w.heap.size := by
  obtain ⟨cs, h1, _⟩ := h
  exact h1.lt
theorem RowS.cell {w : World} {b : Nat} {l : List (List UInt8)} (h : RowS w b l) {i : Nat} {x : List UInt8} (hx : l[i]? = some x) : w.cell? ⟨b, i, none⟩ = some (.string (mkB x)) := by
  obtain ⟨cs, h1, h2⟩ := h
  rw [h1.cell, h2 i x hx]
theorem RowS.frozen {w : World} {b : Nat} {l : List (List UInt8)} (h : RowS w b l) (i : Nat) : w.frozen? ⟨b, i, none⟩ = false := by
  obtain ⟨cs, h1, _⟩ := h
  exact h1.frozen i
theorem RowS.drop {w : World} {b : Nat} {l : List (List UInt8)} (h : RowS w b l) : RowS w b l.dropLast := by
  obtain ⟨cs, h1, h2⟩ := h
  refine ⟨cs, h1, fun i x hx => h2 i x ?_⟩
  obtain ⟨hi, rfl⟩ := List.getElem?_eq_some_iff.1 hx
  rw [List.length_dropLast] at hi
  rw [List.getElem_dropLast]
  exact List.getElem?_eq_getElem (by omega)
theorem mkB_toList (l : List UInt8) : (mkB l).toList = l := by rw [ByteArray.toList_eq, mkB_data]
theorem split_calls (s : ByteArray) (c : UInt8) {w : World} (hF : FW w) (hs : s.size ≤ 1000000) :
    Calls Tryd.prog 26 #[.string s, .string ⟨#[c]⟩] w fun e w' => e = .returned (.slice (some ⟨w.heap.size, 0, none⟩) (splitL c s.data.toList).length (splitL c s.data.toList).length) ∧ RowS w' w.heap.size (splitL c s.data.toList) ∧ Below w.heap.size w w' := by
  obtain ⟨m, hm⟩ := hF.ml
  refine (Tryd.strings_Split s ⟨#[c]⟩ m w (by omega) hm (Nat.le_refl 1)).mono ?_
  rintro e w' ⟨rfl, rfl⟩
  rw [countB_parts, splitB_parts]
  refine ⟨rfl, ⟨_, Blk.new w _ _, fun i x hx => ?_⟩, (Below.refl _ _).alloc (Nat.le_refl _) _⟩
  simp [hx]

set_option maxHeartbeats 400000 in
theorem parts_calls (s : ByteArray) {w : World} (hF : FW w) (hs : s.size ≤ 1000000) :
    Calls Tryd.prog 16 #[.string s] w fun e w' => (∃ c, e = .returned (.slice (some ⟨w.heap.size, 0, none⟩) (partsL s.data.toList).length c) ∧ (partsL s.data.toList).length ≤ c ∧ c ≤ 1000001) ∧ RowS w' w.heap.size (partsL s.data.toList) ∧ Below w.heap.size w w' := by
  have HC := Lib.hid (split_calls s 46 hF hs)
  have hp := splitL_pos 46 s.data.toList
  have hl := splitL_length 46 s.data.toList
  have hl2 : (splitL 46 s.data.toList).length ≤ 1000001 := by have : s.data.toList.length = s.size := by simp
                                                              omega
  have HD := Lib.hid (show partsL s.data.toList = if 1 < (splitL 46 s.data.toList).length ∧ (splitL 46 s.data.toList).getLastD [] = [] then (splitL 46 s.data.toList).dropLast else splitL 46 s.data.toList from rfl)
  generalize partsL s.data.toList = Q at HD ⊢
  generalize splitL 46 s.data.toList = L at HC HD hp hl2
  clear hl hF hs
  have hat := last_at (d := []) hp
  have HAT := Lib.hid hat
  clear hat
  go_enter Tryd.func16, Tryd.ntmps16
  go_wp2_with fail
  refine HC.out.mono ?_
  rintro e w1 ⟨rfl, hR, hb⟩
  have hcell := hR.cell HAT.out
  have HR := Lib.hid hR
  have HB := Lib.hid hb
  clear hR hb HC
  by_cases h1 : L.length = 1
  · have hQ : Q = L := by rw [HD.out, if_neg (by omega)]
    subst hQ
    clear hcell HAT
    rw [h1]
    go_wp2_with fail
    go_ret
    exact ⟨⟨_, by rw [h1]; rfl, by omega, by omega⟩, HR.out, HB.out⟩
  · obtain ⟨n, hn⟩ : ∃ n, L.length = n + 2 := ⟨L.length - 2, by omega⟩
    rw [hn] at hcell ⊢
    have e1 : n + 2 - 1 = n + 1 := by omega
    rw [e1] at hcell
    have hn2 : n + 2 ≤ 1000001 := by omega
    have HN := Lib.hid hn
    by_cases h2 : L.getLastD [] = []
    · have hQ : Q = L.dropLast := by rw [HD.out, if_pos ⟨by omega, h2⟩]
      have hz : (mkB (L.getLastD [])).toList.isEmpty = true := by rw [mkB_toList, h2]; rfl
      clear h1 hn hp hl2 h2
      have HL := Lib.hid (show Q.length = n + 1 by rw [hQ, List.length_dropLast, HN.out]; omega)
      have HQ := Lib.hid (show RowS w1 w.heap.size Q by rw [hQ]; exact HR.out.drop)
      clear hQ
      generalize L.getLastD [] = x at *
      go_wp2_with fail
      go_ret
      exact ⟨⟨_, by rw [HL.out]; rfl, by rw [HL.out]; omega, hn2⟩, HQ.out, HB.out⟩
    · have hQ : Q = L := by rw [HD.out, if_neg (fun h => h2 h.2)]
      have hz : (mkB (L.getLastD [])).toList.isEmpty = false := by rw [mkB_toList]; simpa using h2
      clear h1 hn hp hl2 h2
      have HL := Lib.hid (show Q.length = n + 2 by rw [hQ, HN.out])
      have HQ := Lib.hid (show RowS w1 w.heap.size Q by rw [hQ]; exact HR.out)
      clear hQ
      generalize L.getLastD [] = x at *
      go_wp2_with fail
      go_ret
      exact ⟨⟨_, by rw [HL.out]; rfl, by rw [HL.out]; omega, hn2⟩, HQ.out, HB.out⟩
end Go.Proofs.YtcclghpoodbdcaaDoor
