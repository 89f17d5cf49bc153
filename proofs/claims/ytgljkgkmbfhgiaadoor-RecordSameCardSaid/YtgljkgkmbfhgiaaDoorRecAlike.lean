/- Lists that are the same: record.alike, the reference's. -/
import Derived.Test.YtgljkgkmbfhgiaaDoorRecOpen
import Derived.Deep.LoopGhost
import Derived.RegionTactic
import Derived.ChangeAlike
import Derived.BigRegion
import Derived.Lib.Hide
set_option linter.unusedVariables false
set_option linter.unusedSimpArgs false
set_option maxRecDepth 100000
namespace Go.Proofs.YtgljkgkmbfhgiaaDoor
open Go.RowKit Rec

theorem same_step {l m : List ByteArray} {k : Nat} {x y : ByteArray} (hl : l.length = m.length) (hx : l[k]? = some x) (hy : m[k]? = some y) (he : ∀ j, j < k → l[j]? = m[j]?) (hxy : x = y) : ∀ j, j < k + 1 → l[j]? = m[j]? := fun j hj => by
  by_cases e : j = k
  · rw [e, hx, hy, hxy]
  · exact he j (by omega)
theorem same_end {l m : List ByteArray} (hl : l.length = m.length) (he : ∀ j, j < l.length → l[j]? = m[j]?) : l = m := List.ext_getElem? fun j => by
  by_cases hj : j < l.length
  · exact he j hj
  · rw [List.getElem?_eq_none (by omega), List.getElem?_eq_none (by omega)]
theorem same_text {x y : ByteArray} : (x.toList == y.toList) = decide (x = y) := by
  rw [Bool.eq_iff_iff, beq_iff_eq, decide_eq_true_iff, ByteArray.toList_eq, ByteArray.toList_eq]
  exact ⟨fun h => by
    cases x with | mk x => cases y with | mk y =>
    cases x with | mk x => cases y with | mk y =>
    simpa using h, fun h => by rw [h]⟩

set_option maxHeartbeats 4000000 in
theorem alike_calls (A : Option Addr) (c : Nat) (l : List ByteArray) (A' : Option Addr) (c' : Nat) (m : List ByteArray) (w : World) (h : RowAt textC 1 w A l) (h' : RowAt textC 1 w A' m) (hl : l.length ≤ 1000) (hc : l.length ≤ c) (hc' : m.length ≤ c') :
    Calls Tryd.prog 42 #[.slice A l.length c, .slice A' m.length c'] w fun e w' => e = .returned (.bool (decide (l = m))) ∧ Below w.heap.size w w' := by
  by_cases hlm : l.length = m.length
  · have HR := Lib.hid h
    have HR' := Lib.hid h'
    have HL := Lib.hid hl
    have HLM := Lib.hid hlm
    rw [← hlm]
    clear h h' hl hlm
    go_enter Tryd.func42, Tryd.ntmps42
    go_wp2_with fail
    go_loopg [14] (l.length) (fun q v w' => Hid (∃ k : Nat, k ≤ l.length ∧ q = l.length - k ∧ v = .int .i64 k ∧ Below w.heap.size w w' ∧ ∀ j, j < k → l[j]? = m[j]?))
    case atStart => exact ⟨0, by omega, by omega, rfl, Below.refl _ _, fun j hj => by omega⟩
    case round =>
      obtain ⟨k, hk, hm, rfl, hb, he⟩ := hrel.out
      have HM := Lib.hid hm
      have HB := Lib.hid hb
      have HE := Lib.hid he
      clear hrel hm hb he
      by_cases hkl : k < l.length
      · have hkl' : (k : Int) < (l.length : Int) := by omega
        have hw : IntKind.i64.wrap ((k : Int) + 1) = (k : Int) + 1 := by rw [IntKind.wrap_i64]; have := HL.out; omega
        have hkm : k < m.length := by have := HLM.out; omega
        obtain ⟨x, hx⟩ : ∃ x, l[k]? = some x := ⟨l[k], List.getElem?_eq_getElem hkl⟩
        obtain ⟨y, hy⟩ : ∃ y, m[k]? = some y := ⟨m[k], List.getElem?_eq_getElem hkm⟩
        obtain ⟨b, off, rfl, hcell⟩ := HR.out.keep HB.out k x hx
        obtain ⟨b', off', rfl, hcell'⟩ := HR'.out.keep HB.out k y hy
        have hc0 : wr.cell? ⟨b, off + k, none⟩ = some (.string x) := by simpa using hcell 0 (.string x) rfl
        have hc1 : wr.cell? ⟨b', off' + k, none⟩ = some (.string y) := by simpa using hcell' 0 (.string y) rfl
        have HKL := Lib.hid hkl
        by_cases hxy : x = y
        · have hq : (x.toList == y.toList) = true := by rw [same_text, hxy]; exact decide_eq_true rfl
          have HN := Lib.hid (same_step HLM.out hx hy HE.out hxy)
          clear hx hy hcell hcell' hxy hkl hkm hk
          go_wp2_with fail
          skip
          skip
          go_roundg (l.length - (k + 1))
          case measure => have := HM.out; have := HKL.out; omega
          case rel => exact ⟨k + 1, by have := HKL.out; omega, rfl, by first | rfl | go_num, HB.out, HN.out⟩
        · have hq : (x.toList == y.toList) = false := by rw [same_text]; exact decide_eq_false hxy
          have HN := Lib.hid (show decide (l = m) = false by
            refine decide_eq_false ?_
            intro e
            rw [e, hy] at hx
            exact hxy (Option.some.inj hx).symm)
          clear hx hy hcell hcell' hxy hkl hkm hk
          go_wp2_with fail
          skip
          skip
          go_ret
          exact ⟨by rw [HN.out]; rfl, HB.out⟩
      · have hkl' : ¬ (k : Int) < (l.length : Int) := by omega
        have HN := Lib.hid (show decide (l = m) = true by
          refine decide_eq_true ?_
          exact same_end HLM.out fun j hj => HE.out j (by omega))
        go_wp2_with fail
        go_ret
        exact ⟨by rw [HN.out]; rfl, HB.out⟩
  · have hne : ((l.length : Int) == (m.length : Int)) = false := by simp only [beq_eq_false_iff_ne, ne_eq]; omega
    have hne2 : ((l.length : Int) != (m.length : Int)) = true := by simp only [bne_iff_ne, ne_eq]; omega
    have HN := Lib.hid (show decide (l = m) = false from decide_eq_false fun e => hlm (by rw [e]))
    rw [HN.out]
    clear h h' hlm
    go_enter Tryd.func42, Tryd.ntmps42
    go_wp2_with fail
    go_ret
    exact ⟨rfl, Below.refl _ _⟩
set_option maxHeartbeats 4000000 in
theorem same01_calls (A : Option Addr) (c : Nat) (l : List ByteArray) (A' : Option Addr) (c' : Nat) (m : List ByteArray) (w : World) (h : RowAt textC 1 w A l) (h' : RowAt textC 1 w A' m) (hl : l.length ≤ 1000) (hc : l.length ≤ c) (hc' : m.length ≤ c') :
    Calls Tryd.prog 57 #[.slice A l.length c, .slice A' m.length c'] w fun e w' => e = .returned (.bool (decide (l = m))) ∧ Below w.heap.size w w' := by
  by_cases hlm : l.length = m.length
  · have HR := Lib.hid h
    have HR' := Lib.hid h'
    have HL := Lib.hid hl
    have HLM := Lib.hid hlm
    rw [← hlm]
    clear h h' hl hlm
    go_enter Tryd.func57, Tryd.ntmps57
    go_wp2_with fail
    go_loopg [5] (l.length) (fun q v w' => Hid (∃ k : Nat, k ≤ l.length ∧ q = l.length - k ∧ v = .int .i64 k ∧ Below w.heap.size w w' ∧ ∀ j, j < k → l[j]? = m[j]?))
    case atStart => exact ⟨0, by omega, by omega, rfl, Below.refl _ _, fun j hj => by omega⟩
    case round =>
      obtain ⟨k, hk, hm, rfl, hb, he⟩ := hrel.out
      have HM := Lib.hid hm
      have HB := Lib.hid hb
      have HE := Lib.hid he
      clear hrel hm hb he
      by_cases hkl : k < l.length
      · have hkl' : (k : Int) < (l.length : Int) := by omega
        have hw : IntKind.i64.wrap ((k : Int) + 1) = (k : Int) + 1 := by rw [IntKind.wrap_i64]; have := HL.out; omega
        have hkm : k < m.length := by have := HLM.out; omega
        obtain ⟨x, hx⟩ : ∃ x, l[k]? = some x := ⟨l[k], List.getElem?_eq_getElem hkl⟩
        obtain ⟨y, hy⟩ : ∃ y, m[k]? = some y := ⟨m[k], List.getElem?_eq_getElem hkm⟩
        obtain ⟨b, off, rfl, hcell⟩ := HR.out.keep HB.out k x hx
        obtain ⟨b', off', rfl, hcell'⟩ := HR'.out.keep HB.out k y hy
        have hc0 : wr.cell? ⟨b, off + k, none⟩ = some (.string x) := by simpa using hcell 0 (.string x) rfl
        have hc1 : wr.cell? ⟨b', off' + k, none⟩ = some (.string y) := by simpa using hcell' 0 (.string y) rfl
        have HKL := Lib.hid hkl
        by_cases hxy : x = y
        · have hq : (x.toList == y.toList) = true := by rw [same_text, hxy]; exact decide_eq_true rfl
          have HN := Lib.hid (same_step HLM.out hx hy HE.out hxy)
          clear hx hy hcell hcell' hxy hkl hkm hk
          go_wp2_with fail
          go_region
          go_wp2_with fail
          go_roundg (l.length - (k + 1))
          case measure => have := HM.out; have := HKL.out; omega
          case rel => exact ⟨k + 1, by have := HKL.out; omega, rfl, by first | rfl | go_num, HB.out.drew, HN.out⟩
        · have hq : (x.toList == y.toList) = false := by rw [same_text]; exact decide_eq_false hxy
          have HN := Lib.hid (show decide (l = m) = false by
            refine decide_eq_false ?_
            intro e
            rw [e, hy] at hx
            exact hxy (Option.some.inj hx).symm)
          clear hx hy hcell hcell' hxy hkl hkm hk
          go_wp2_with fail
          go_region
          go_wp2_with fail
          go_ret
          exact ⟨by rw [HN.out]; rfl, HB.out.drew⟩
      · have hkl' : ¬ (k : Int) < (l.length : Int) := by omega
        have HN := Lib.hid (show decide (l = m) = true by
          refine decide_eq_true ?_
          exact same_end HLM.out fun j hj => HE.out j (by omega))
        go_wp2_with fail
        go_ret
        exact ⟨by rw [HN.out]; rfl, HB.out⟩
  · have hne : ((l.length : Int) == (m.length : Int)) = false := by simp only [beq_eq_false_iff_ne, ne_eq]; omega
    have hne2 : ((l.length : Int) != (m.length : Int)) = true := by simp only [bne_iff_ne, ne_eq]; omega
    have HN := Lib.hid (show decide (l = m) = false from decide_eq_false fun e => hlm (by rw [e]))
    rw [HN.out]
    clear h h' hlm
    go_enter Tryd.func57, Tryd.ntmps57
    go_wp2_with fail
    go_ret
    exact ⟨rfl, Below.refl _ _⟩
theorem same11_calls (A : Option Addr) (c : Nat) (l : List ByteArray) (A' : Option Addr) (c' : Nat) (m : List ByteArray) (w : World) (h : RowAt textC 1 w A l) (h' : RowAt textC 1 w A' m) (hl : l.length ≤ 1000) (hc : l.length ≤ c) (hc' : m.length ≤ c') :
    Calls Tryd.prog 43 #[.slice A l.length c, .slice A' m.length c'] w fun e w' => e = .returned (.bool (decide (l = m))) ∧ Below w.heap.size w w' := by
  have HC := Lib.hid (same01_calls A c l A' c' m w h h' hl hc hc')
  clear h h' hl hc hc'
  go_enter Tryd.func43, Tryd.ntmps43
  go_wp2_with fail
  refine HC.out.mono ?_
  rintro e w1 ⟨rfl, hb⟩
  have HB := Lib.hid hb
  clear hb
  go_wp2_with fail
  go_ret
  exact ⟨rfl, HB.out⟩
end Go.Proofs.YtgljkgkmbfhgiaaDoor
