/- The clock's awake: two texts, room for one: true, whatever the memory. -/
import Derived.Test.YtjnghgalniapjaaDoorMemo2
set_option linter.unusedSimpArgs false
set_option linter.unusedVariables false
namespace Go.Proofs.YtjnghgalniapjaaDoor
open Go.RowKit

def sA : ByteArray := ⟨#[97]⟩
def sB : ByteArray := ⟨#[98]⟩
def sX : ByteArray := ⟨#[120]⟩
def sY : ByteArray := ⟨#[121]⟩
def aw1 : Memo := ⟨[⟨sA, 1, sX, true⟩], 1, 0⟩
def aw2 : Memo := ⟨[⟨sB, 1, sY, true⟩], 1, 0⟩
theorem aw_a : putM ⟨[], 1, 0⟩ sA 1 sX = aw1 := by kernel_rfl
theorem aw_b : getM aw1 sA 1 = (aw1, sX, true) := by kernel_rfl
theorem aw_c : getM aw1 sA 2 = (aw1, ⟨#[]⟩, false) := by kernel_rfl
theorem aw_d : putM aw1 sB 1 sY = aw2 := by kernel_rfl
theorem aw_e : getM aw2 sA 1 = (aw2, ⟨#[]⟩, false) := by kernel_rfl

theorem below_fr {w w1 w2 : World} {fp : Nat → Prop} {B : Nat} (h : Below B w w1) (hB : B ≤ w1.heap.size) (k : Fr w1 w2 fp) (hf : ∀ i, fp i → B ≤ i) : Below B w w2 :=
  h.trans (k.below hB hf)

set_option maxHeartbeats 1000000 in
set_option maxRecDepth 100000 in
theorem awake_calls (w : World) : Calls Tryd.prog 4 #[] w fun e w' => e = .returned (.bool true) ∧ Below w.heap.size w w' := by
  go_enter Tryd.func4, Tryd.ntmps4
  go_wp2_with fail
  refine (new_ok 1 _ (by omega) (by omega)).mono ?_
  rintro e w1 ⟨rfl, hM1, hb1⟩
  have hs1 : w.heap.size ≤ w1.heap.size := hb1.size
  have HB1 := Lib.hid hb1
  clear hb1
  go_wp2_with fail
  refine (put_calls hM1 hs1 sA sX 1).mono ?_
  rintro e w2 ⟨rfl, ⟨pv2, hM2⟩, hf2⟩
  rw [show putM ⟨[], (1 : Int).toNat, 0⟩ sA 1 sX = aw1 from aw_a] at hM2
  have hb2 := below_fr HB1.out hs1 hf2 hM1.base_le
  have hs2 : w.heap.size ≤ w2.heap.size := hb2.size
  have HB2 := Lib.hid hb2
  clear hM1 hb2 hf2 HB1
  go_wp2_with fail
  refine (get_calls hM2 sA 1).mono ?_
  rintro e w3 ⟨rfl, hM3, hf3⟩
  rw [aw_b] at hM3 ⊢
  have hb3 := below_fr HB2.out hs2 hf3 hM2.base_le
  have hs3 : w.heap.size ≤ w3.heap.size := hb3.size
  have HB3 := Lib.hid hb3
  clear hM2 hb3 hf3 HB2
  go_wp2_with fail
  refine (get_calls hM3 sA 2).mono ?_
  rintro e w4 ⟨rfl, hM4, hf4⟩
  have e4 := aw_c
  simp only [e4] at hM4 ⊢
  have hb4 := below_fr HB3.out hs3 hf4 hM3.base_le
  have hs4 : w.heap.size ≤ w4.heap.size := hb4.size
  have HB4 := Lib.hid hb4
  clear hM3 hb4 hf4 HB3 e4
  go_wp2_with fail
  refine (put_calls hM4 hs4 sB sY 1).mono ?_
  rintro e w5 ⟨rfl, ⟨pv5, hM5⟩, hf5⟩
  rw [show putM _ sB 1 sY = aw2 from aw_d] at hM5
  have hb5 := below_fr HB4.out hs4 hf5 hM4.base_le
  have hs5 : w.heap.size ≤ w5.heap.size := hb5.size
  have HB5 := Lib.hid hb5
  clear hM4 hb5 hf5 HB4
  go_wp2_with fail
  refine (get_calls hM5 sA 1).mono ?_
  rintro e w6 ⟨rfl, hM6, hf6⟩
  have e6 := aw_e
  simp only [e6] at hM6 ⊢
  have hb6 := below_fr HB5.out hs5 hf6 hM5.base_le
  have hs6 : w.heap.size ≤ w6.heap.size := hb6.size
  have HB6 := Lib.hid hb6
  clear hM5 hb6 hf6 HB5 e6
  go_wp2_with fail
  refine (new_bad 0 _ (.inl (by omega))).mono ?_
  rintro e w7 ⟨v7, rfl, hc7, hb7⟩
  have hM7 := hM6.keep hb7
  have hb8 := belowOn HB6.out hs6 hb7
  have HB7 := Lib.hid hb8
  have HC := Lib.hid hc7
  clear hM6 hb7 HB6 hb8 hc7
  have HM := Lib.hid hM7
  have hX : (sX.toList == [120]) = true := by kernel_rfl
  clear hM7
  go_wp2_with (first | (go_at_call 8; refine (len_calls HM.out).mono ?_; rintro e w' ⟨rfl, rfl⟩) | (go_at_call 11; refine (is_chain _ _ _ _ _ HC.out).mono ?_; rintro e w' ⟨rfl, rfl⟩))
  go_ret
  exact ⟨rfl, HB7.out⟩
end Go.Proofs.YtjnghgalniapjaaDoor
