/- Hosts as texts: host.Text, the reference's. -/
import Derived.Test.YtgljkgkmbfhgiaaDoorHostRef
import Derived.Test.YtgljkgkmbfhgiaaDoorHostFour
import Derived.Test.YtgljkgkmbfhgiaaDoorRecPure
set_option linter.unusedVariables false
set_option linter.unusedSimpArgs false
set_option maxRecDepth 100000
namespace Go.Proofs.YtgljkgkmbfhgiaaDoor
open Go.RowKit Four Six Rec

theorem br_add (T : ByteArray) (h : T.size ≤ 100) : (∀ w, (Op.stringOp .add ⟨#[91]⟩ T).run Tryd.prog w = .ok (.string ((⟨#[91]⟩ : ByteArray) ++ T)) w) ∧ (∀ w, (Op.stringOp .add ((⟨#[91]⟩ : ByteArray) ++ T) ⟨#[93]⟩).run Tryd.prog w = .ok (.string ((⟨#[91]⟩ : ByteArray) ++ T ++ (⟨#[93]⟩ : ByteArray))) w) :=
  ⟨fun w => run_string_add_sum w _ _ (by rw [show (⟨#[91]⟩ : ByteArray).size = 1 from rfl]; omega), fun w => run_string_add_sum w _ _ (by rw [ByteArray.size_append, show (⟨#[91]⟩ : ByteArray).size = 1 from rfl, show (⟨#[93]⟩ : ByteArray).size = 1 from rfl]; omega)⟩
theorem br_is (l : List UInt8) : (⟨#[91]⟩ : ByteArray) ++ mkB l ++ (⟨#[93]⟩ : ByteArray) = mkB (91 :: (l ++ [93])) := by
  apply ByteArray.ext
  simp [mkB, ByteArray.data_append]
theorem cells_v6 (h : HostV) : (cellsA h.v6).toArray = #[.int .u16 h.a0, .int .u16 h.a1, .int .u16 h.a2, .int .u16 h.a3, .int .u16 h.a4, .int .u16 h.a5, .int .u16 h.a6, .int .u16 h.a7] := cells_eight _ _ _ _ _ _ _ _
theorem cells_h (h : HostV) : h.cells.toArray = #[.int .i64 h.kind, .string h.name, .int .u32 h.v4, .int .u16 h.a0, .int .u16 h.a1, .int .u16 h.a2, .int .u16 h.a3, .int .u16 h.a4, .int .u16 h.a5, .int .u16 h.a6, .int .u16 h.a7] := rfl
set_option maxHeartbeats 4000000 in
theorem host_text (h : HostV) (ho : h.ok) (w : World) (hF : FW w) : Calls Tryd.prog 47 #[.agg h.cells.toArray] w fun e w' => e = .returned (.string (mkB (hostT h))) ∧ Below w.heap.size w w' := by
  have HF := Lib.hid hF
  clear hF
  have H4 := Lib.hid ho.v4
  have H6 := Lib.hid ho.v6
  have HL6 := Lib.hid (text6_len h.v6 rfl ho.v6)
  clear ho
  by_cases h2 : h.kind = 2 ∨ h.kind = 5
  · have HT := Lib.hid (show mkB (hostT h) = h.name by unfold hostT; rw [if_pos h2, mkB_of])
    rw [HT.out, cells_h]
    rcases h2 with h2 | h2
    · rw [h2]
      clear h2 HT H4 H6 HL6
      go_enter Tryd.func47, Tryd.ntmps47
      go_wp2_with fail
      go_ret
      exact ⟨rfl, (Below.refl _ _).alloc (Nat.le_refl _) _⟩
    · rw [h2]
      clear h2 HT H4 H6 HL6
      go_enter Tryd.func47, Tryd.ntmps47
      go_wp2_with fail
      go_ret
      exact ⟨rfl, (Below.refl _ _).alloc (Nat.le_refl _) _⟩
  · by_cases h3 : h.kind = 3
    · have HT := Lib.hid (show hostT h = textL h.v4 by unfold hostT; rw [if_neg h2, if_pos h3])
      rw [HT.out, cells_h, h3]
      clear h2 h3 HT H6 HL6
      go_enter Tryd.func47, Tryd.ntmps47
      go_wp2_with fail
      refine (text4_calls h.v4 H4.out (HF.out.keep ((Below.refl _ _).alloc (Nat.le_refl _) _))).mono ?_
      rintro e w1 ⟨rfl, hb⟩
      have H1 := Lib.hid (belowOn ((Below.refl w.heap.size w).alloc (Nat.le_refl _) _) (by simp) hb)
      clear hb
      go_wp2_with fail
      go_ret
      exact ⟨rfl, H1.out⟩
    · by_cases h4 : h.kind = 4
      · have HT := Lib.hid (show hostT h = 91 :: (text6 h.v6 ++ [93]) by unfold hostT; rw [if_neg h2, if_neg h3, if_pos h4])
        have h6 := fun (W : World) (hW : FW W) => text_calls h.v6 rfl H6.out hW
        rw [cells_v6] at h6
        have hbr := br_add (mkB (text6 h.v6)) (by rw [mkB_size]; have := HL6.out; omega)
        rw [HT.out, ← br_is, cells_h, h4]
        generalize mkB (text6 h.v6) = T at hbr h6 ⊢
        have HB := Lib.hid hbr
        have HC := Lib.hid h6
        clear h2 h3 h4 HT H4 hbr h6 H6 HL6
        go_enter Tryd.func47, Tryd.ntmps47
        go_wp2_with fail
        refine (HC.out _ (HF.out.keep ((Below.refl _ _).alloc (Nat.le_refl _) _))).mono ?_
        rintro e w1 ⟨rfl, hb⟩
        have H1 := Lib.hid (belowOn ((Below.refl w.heap.size w).alloc (Nat.le_refl _) _) (by simp) hb)
        obtain ⟨b1, b2⟩ := HB.out
        clear hb HC
        go_wp2_with fail
        go_ret
        exact ⟨rfl, H1.out⟩
      · have HT := Lib.hid (show mkB (hostT h) = ⟨#[]⟩ by unfold hostT; rw [if_neg h2, if_neg h3, if_neg h4]; rfl)
        have k2 : (h.kind == 2) = false := by simp; exact fun e => h2 (.inl e)
        have k5 : (h.kind == 5) = false := by simp; exact fun e => h2 (.inr e)
        have k3 : (h.kind == 3) = false := by simpa using h3
        have k4 : (h.kind == 4) = false := by simpa using h4
        rw [HT.out, cells_h]
        clear h2 h3 h4 HT H4 H6 HL6
        go_enter Tryd.func47, Tryd.ntmps47
        go_wp2_with fail
        go_ret
        exact ⟨rfl, (Below.refl _ _).alloc (Nat.le_refl _) _⟩
set_option maxHeartbeats 4000000 in
theorem refhost_text (h : HostV) (ho : h.ok) (w : World)  : Calls Tryd.prog 38 #[.agg h.cells.toArray] w fun e w' => e = .returned (.string (mkB (hostT h))) ∧ Below w.heap.size w w' := by
  skip
  skip
  have H4 := Lib.hid ho.v4
  have H6 := Lib.hid ho.v6
  have HL6 := Lib.hid (text6_len h.v6 rfl ho.v6)
  clear ho
  by_cases h2 : h.kind = 2 ∨ h.kind = 5
  · have HT := Lib.hid (show mkB (hostT h) = h.name by unfold hostT; rw [if_pos h2, mkB_of])
    rw [HT.out, cells_h]
    rcases h2 with h2 | h2
    · rw [h2]
      clear h2 HT H4 H6 HL6
      go_enter Tryd.func38, Tryd.ntmps38
      go_wp2_with fail
      go_ret
      exact ⟨rfl, (Below.refl _ _).alloc (Nat.le_refl _) _⟩
    · rw [h2]
      clear h2 HT H4 H6 HL6
      go_enter Tryd.func38, Tryd.ntmps38
      go_wp2_with fail
      go_ret
      exact ⟨rfl, (Below.refl _ _).alloc (Nat.le_refl _) _⟩
  · by_cases h3 : h.kind = 3
    · have HT := Lib.hid (show hostT h = textL h.v4 by unfold hostT; rw [if_neg h2, if_pos h3])
      rw [HT.out, cells_h, h3]
      clear h2 h3 HT H6 HL6
      go_enter Tryd.func38, Tryd.ntmps38
      go_wp2_with fail
      refine (reftext4_calls h.v4 H4.out _).mono ?_
      rintro e w1 ⟨rfl, hb⟩
      have H1 := Lib.hid (belowOn ((Below.refl w.heap.size w).alloc (Nat.le_refl _) _) (by simp) hb)
      clear hb
      go_wp2_with fail
      go_ret
      exact ⟨rfl, H1.out⟩
    · by_cases h4 : h.kind = 4
      · have HT := Lib.hid (show hostT h = 91 :: (text6 h.v6 ++ [93]) by unfold hostT; rw [if_neg h2, if_neg h3, if_pos h4])
        have h6 := fun (W : World) => reftext_calls h.v6 rfl H6.out W
        rw [cells_v6] at h6
        have hbr := br_add (mkB (text6 h.v6)) (by rw [mkB_size]; have := HL6.out; omega)
        rw [HT.out, ← br_is, cells_h, h4]
        generalize mkB (text6 h.v6) = T at hbr h6 ⊢
        have HB := Lib.hid hbr
        have HC := Lib.hid h6
        clear h2 h3 h4 HT H4 hbr h6 H6 HL6
        go_enter Tryd.func38, Tryd.ntmps38
        go_wp2_with fail
        refine (HC.out _).mono ?_
        rintro e w1 ⟨rfl, hb⟩
        have H1 := Lib.hid (belowOn ((Below.refl w.heap.size w).alloc (Nat.le_refl _) _) (by simp) hb)
        obtain ⟨b1, b2⟩ := HB.out
        clear hb HC
        go_wp2_with fail
        go_ret
        exact ⟨rfl, H1.out⟩
      · have HT := Lib.hid (show mkB (hostT h) = ⟨#[]⟩ by unfold hostT; rw [if_neg h2, if_neg h3, if_neg h4]; rfl)
        have k2 : (h.kind == 2) = false := by simp; exact fun e => h2 (.inl e)
        have k5 : (h.kind == 5) = false := by simp; exact fun e => h2 (.inr e)
        have k3 : (h.kind == 3) = false := by simpa using h3
        have k4 : (h.kind == 4) = false := by simpa using h4
        rw [HT.out, cells_h]
        clear h2 h3 h4 HT H4 H6 HL6
        go_enter Tryd.func38, Tryd.ntmps38
        go_wp2_with fail
        go_ret
        exact ⟨rfl, (Below.refl _ _).alloc (Nat.le_refl _) _⟩
end Go.Proofs.YtgljkgkmbfhgiaaDoor
