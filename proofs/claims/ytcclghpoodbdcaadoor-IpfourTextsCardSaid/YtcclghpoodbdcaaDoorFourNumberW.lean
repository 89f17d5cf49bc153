/- ipfour.number, walked: one way for each base. -/
import Derived.Test.YtcclghpoodbdcaaDoorFourNumber
set_option linter.unusedVariables false
set_option linter.unusedSimpArgs false
set_option maxRecDepth 100000
namespace Go.Proofs.YtcclghpoodbdcaaDoor
open Go.RowKit Four

set_option maxHeartbeats 4000000 in
theorem number_x (s : ByteArray) (r0 : List UInt8) (hl : s.data.toList = 48 :: 120 :: r0) (w : World) (hs : s.size ≤ 1000000) :
    Calls Tryd.prog 17 #[.string s] w fun e w' => e = .returned (numV (numR 16 r0 0)) ∧ Below w.heap.size w w' := by
  have hcv := fun w s => Lib.run_convert_string_bytes (P := Tryd.prog) w 9 37 5 s Tryd.underlying9 Tryd.underlying37 Tryd.underlying5
  have hz : s.size = r0.length + 2 := by
    have : s.data.toList.length = s.size := by simp
    rw [hl] at this; simp at this; omega
  have hz2 : s.toList.isEmpty = false := by rw [ByteArray.toList_eq, hl]; rfl
  have h2 : (2 : Int) ≤ (s.size : Int) := by omega
  have HL := Lib.hid hl
  clear hl hz
  have hr0 : (s.extract 2 s.size).data.toList = r0 := by
    rw [Lib.extract_to_end, HL.out]; rfl
  obtain ⟨r, hr⟩ : ∃ r, r = r0 := ⟨_, rfl⟩
  rw [← hr]
  rw [← hr] at hr0
  have HR := Lib.hid hr
  have N0 : NumRel w 16 r w.heap.size (w.heap.size + 1) (w.heap.size + 1 + 1) 0 0 (Lib.bytesWorld ((w.alloc (.cells #[.int .i64 16] 3)).alloc (.cells #[.int .i64 0] 3)) 5 (s.extract 2 s.size)) := by
    have hk := bytesWorld_below ((w.alloc (.cells #[.int .i64 16] 3)).alloc (.cells #[.int .i64 0] 3)) 5 (s.extract 2 s.size)
    have h1 : Blk ((w.alloc (.cells #[.int .i64 16] 3)).alloc (.cells #[.int .i64 0] 3)) w.heap.size 3 #[.int .i64 16] := (Blk.new w _ _).alloc _
    have h2 : Blk ((w.alloc (.cells #[.int .i64 16] 3)).alloc (.cells #[.int .i64 0] 3)) (w.heap.size + 1) 3 #[.int .i64 0] := by have := Blk.new (w.alloc (.cells #[.int .i64 16] 3)) 3 #[.int .i64 0]; simpa using this
    have h3 := BytesB.new ((w.alloc (.cells #[.int .i64 16] 3)).alloc (.cells #[.int .i64 0] 3)) (s.extract 2 s.size)
    rw [hr0] at h3
    have hb : Below w.heap.size w ((w.alloc (.cells #[.int .i64 16] 3)).alloc (.cells #[.int .i64 0] 3)) := ((Below.refl _ _).alloc (Nat.le_refl _) _).alloc (by simp) _
    have h4 : ((w.alloc (.cells #[.int .i64 16] 3)).alloc (.cells #[.int .i64 0] 3)).heap.size = w.heap.size + 1 + 1 := by simp
    rw [h4] at h3
    exact ⟨Nat.zero_le _, Nat.zero_le _, by rw [List.drop_zero], h1.keep hk, h2.keep hk, h3, belowOn hb (by simp; omega) hk, by omega, by omega⟩
  have N1 := Lib.hid N0
  clear N0
  have hsz : r.length = s.size - 2 := by
    have : (s.extract 2 s.size).data.toList.length = (s.extract 2 s.size).size := by simp
    rw [hr0, ByteArray.size_extract] at this
    omega
  have HSZ := Lib.hid hsz
  clear hr hr0 hsz
  go_enter Tryd.func17, Tryd.ntmps17
  go_wp2_with fail
  refine (Tryd.strings_HasPrefix _ _ _).mono ?_
  rintro e w' ⟨rfl, rfl⟩
  rw [show Lib.hasPrefix s.data.toList (ByteArray.mk #[48, 120]).data.toList = true by rw [HL.out]; rfl]
  go_wp2_with fail
  rw [← HSZ.out]
  generalize Lib.bytesWorld ((w.alloc (.cells #[.int .i64 16] 3)).alloc (.cells #[.int .i64 0] 3)) 5 (s.extract 2 s.size) = W at N1 ⊢
  generalize grownCap ((w.alloc (.cells #[.int .i64 16] 3)).alloc (.cells #[.int .i64 0] 3)) r.length 0 5 = cap
  generalize w.heap.size + 1 + 1 = g at N1 ⊢
  generalize w.heap.size + 1 = nb at N1 ⊢
  clear hcv
  have hrl : r.length ≤ 1000000 := by have := HSZ.out; omega
  go_loopg [42] r.length (fun m v42 w' => Hid (∃ (k n : Nat), v42 = .int .i64 k ∧ m = r.length - k ∧ NumRel w 16 r w.heap.size nb g k n w'))
  case atStart => exact ⟨0, 0, rfl, rfl, N1.out⟩
  case round =>
    obtain ⟨k, n, rfl, hm, hN⟩ := hrel.out
    clear hrel N1
    have HM := Lib.hid hm
    have hle := hN.le
    have hnm : n ≤ 1099511627776 := hN.n_le
    have b0 := hN.base.cell 0
    have n0 := hN.box.cell 0
    have nf := hN.box.frozen
    simp only [List.getElem?_toArray, List.getElem?_cons_zero, List.getElem?_cons_succ] at b0 n0
    have HNN := Lib.hid hN
    clear hm hN
    by_cases hlt : k < r.length
    · obtain ⟨c, hc⟩ : ∃ c, r[k]? = some c := ⟨_, List.getElem?_eq_getElem hlt⟩
      have hcell := HNN.out.row.cell hc
      have hfl := figure_le c
      have HC := Lib.hid hc
      clear hc
      have HF := Lib.hid (fun W => figure_calls c W)
      by_cases hf : figure c < 16
      · have HX := Lib.hid (HNN.out.next HC.out hf)
        have HA := Lib.hid (add_calls n 16 (figure c) hnm (by omega) hfl n0 (nf 0) b0)
        obtain ⟨F, hF⟩ : ∃ F, F = figure c := ⟨_, rfl⟩
        rw [← hF] at HX HF HA hf hfl
        clear hF
        have hf2 : (F : Int) < 16 := by omega
        go_wp2_with (first | (go_at_call 29; refine (HF.out _).mono ?_; rintro e w' ⟨rfl, rfl⟩) | (go_at_call 28; refine HA.out.mono ?_; rintro e w' ⟨rfl, rfl⟩))
        go_roundg (r.length - (k + 1))
        case measure => have := HM.out; omega
        case rel => exact ⟨k + 1, _, by simp, rfl, HX.out⟩
      · have HX := Lib.hid (HNN.out.bad HC.out hf)
        have hf2 : 16 ≤ (figure c : Int) := by omega
        go_wp2_with (first | (go_at_call 29; refine (HF.out _).mono ?_; rintro e w' ⟨rfl, rfl⟩) | go_in)
        go_ret2
        exact ⟨by rw [HX.out]; rfl, HNN.out.be⟩
    · obtain rfl : k = r.length := by omega
      have HX := Lib.hid (HNN.out.done)
      go_wp2_with fail
      go_ret2
      exact ⟨by rw [HX.out]; rfl, HNN.out.be⟩
set_option maxHeartbeats 4000000 in
theorem number_X (s : ByteArray) (r0 : List UInt8) (hl : s.data.toList = 48 :: 88 :: r0) (w : World) (hs : s.size ≤ 1000000) :
    Calls Tryd.prog 17 #[.string s] w fun e w' => e = .returned (numV (numR 16 r0 0)) ∧ Below w.heap.size w w' := by
  have hcv := fun w s => Lib.run_convert_string_bytes (P := Tryd.prog) w 9 37 5 s Tryd.underlying9 Tryd.underlying37 Tryd.underlying5
  have hz : s.size = r0.length + 2 := by
    have : s.data.toList.length = s.size := by simp
    rw [hl] at this; simp at this; omega
  have hz2 : s.toList.isEmpty = false := by rw [ByteArray.toList_eq, hl]; rfl
  have h2 : (2 : Int) ≤ (s.size : Int) := by omega
  have HL := Lib.hid hl
  clear hl hz
  have hr0 : (s.extract 2 s.size).data.toList = r0 := by
    rw [Lib.extract_to_end, HL.out]; rfl
  obtain ⟨r, hr⟩ : ∃ r, r = r0 := ⟨_, rfl⟩
  rw [← hr]
  rw [← hr] at hr0
  have HR := Lib.hid hr
  have N0 : NumRel w 16 r w.heap.size (w.heap.size + 1) (w.heap.size + 1 + 1) 0 0 (Lib.bytesWorld ((w.alloc (.cells #[.int .i64 16] 3)).alloc (.cells #[.int .i64 0] 3)) 5 (s.extract 2 s.size)) := by
    have hk := bytesWorld_below ((w.alloc (.cells #[.int .i64 16] 3)).alloc (.cells #[.int .i64 0] 3)) 5 (s.extract 2 s.size)
    have h1 : Blk ((w.alloc (.cells #[.int .i64 16] 3)).alloc (.cells #[.int .i64 0] 3)) w.heap.size 3 #[.int .i64 16] := (Blk.new w _ _).alloc _
    have h2 : Blk ((w.alloc (.cells #[.int .i64 16] 3)).alloc (.cells #[.int .i64 0] 3)) (w.heap.size + 1) 3 #[.int .i64 0] := by have := Blk.new (w.alloc (.cells #[.int .i64 16] 3)) 3 #[.int .i64 0]; simpa using this
    have h3 := BytesB.new ((w.alloc (.cells #[.int .i64 16] 3)).alloc (.cells #[.int .i64 0] 3)) (s.extract 2 s.size)
    rw [hr0] at h3
    have hb : Below w.heap.size w ((w.alloc (.cells #[.int .i64 16] 3)).alloc (.cells #[.int .i64 0] 3)) := ((Below.refl _ _).alloc (Nat.le_refl _) _).alloc (by simp) _
    have h4 : ((w.alloc (.cells #[.int .i64 16] 3)).alloc (.cells #[.int .i64 0] 3)).heap.size = w.heap.size + 1 + 1 := by simp
    rw [h4] at h3
    exact ⟨Nat.zero_le _, Nat.zero_le _, by rw [List.drop_zero], h1.keep hk, h2.keep hk, h3, belowOn hb (by simp; omega) hk, by omega, by omega⟩
  have N1 := Lib.hid N0
  clear N0
  have hsz : r.length = s.size - 2 := by
    have : (s.extract 2 s.size).data.toList.length = (s.extract 2 s.size).size := by simp
    rw [hr0, ByteArray.size_extract] at this
    omega
  have HSZ := Lib.hid hsz
  clear hr hr0 hsz
  go_enter Tryd.func17, Tryd.ntmps17
  go_wp2_with fail
  refine (Tryd.strings_HasPrefix _ _ _).mono ?_
  rintro e w' ⟨rfl, rfl⟩
  rw [show Lib.hasPrefix s.data.toList (ByteArray.mk #[48, 120]).data.toList = false by rw [HL.out]; rfl]
  go_wp2_with fail
  refine (Tryd.strings_HasPrefix _ _ _).mono ?_
  rintro e w' ⟨rfl, rfl⟩
  rw [show Lib.hasPrefix s.data.toList (ByteArray.mk #[48, 88]).data.toList = true by rw [HL.out]; rfl]
  go_wp2_with fail
  rw [← HSZ.out]
  generalize Lib.bytesWorld ((w.alloc (.cells #[.int .i64 16] 3)).alloc (.cells #[.int .i64 0] 3)) 5 (s.extract 2 s.size) = W at N1 ⊢
  generalize grownCap ((w.alloc (.cells #[.int .i64 16] 3)).alloc (.cells #[.int .i64 0] 3)) r.length 0 5 = cap
  generalize w.heap.size + 1 + 1 = g at N1 ⊢
  generalize w.heap.size + 1 = nb at N1 ⊢
  clear hcv
  have hrl : r.length ≤ 1000000 := by have := HSZ.out; omega
  go_loopg [42] r.length (fun m v42 w' => Hid (∃ (k n : Nat), v42 = .int .i64 k ∧ m = r.length - k ∧ NumRel w 16 r w.heap.size nb g k n w'))
  case atStart => exact ⟨0, 0, rfl, rfl, N1.out⟩
  case round =>
    obtain ⟨k, n, rfl, hm, hN⟩ := hrel.out
    clear hrel N1
    have HM := Lib.hid hm
    have hle := hN.le
    have hnm : n ≤ 1099511627776 := hN.n_le
    have b0 := hN.base.cell 0
    have n0 := hN.box.cell 0
    have nf := hN.box.frozen
    simp only [List.getElem?_toArray, List.getElem?_cons_zero, List.getElem?_cons_succ] at b0 n0
    have HNN := Lib.hid hN
    clear hm hN
    by_cases hlt : k < r.length
    · obtain ⟨c, hc⟩ : ∃ c, r[k]? = some c := ⟨_, List.getElem?_eq_getElem hlt⟩
      have hcell := HNN.out.row.cell hc
      have hfl := figure_le c
      have HC := Lib.hid hc
      clear hc
      have HF := Lib.hid (fun W => figure_calls c W)
      by_cases hf : figure c < 16
      · have HX := Lib.hid (HNN.out.next HC.out hf)
        have HA := Lib.hid (add_calls n 16 (figure c) hnm (by omega) hfl n0 (nf 0) b0)
        obtain ⟨F, hF⟩ : ∃ F, F = figure c := ⟨_, rfl⟩
        rw [← hF] at HX HF HA hf hfl
        clear hF
        have hf2 : (F : Int) < 16 := by omega
        go_wp2_with (first | (go_at_call 29; refine (HF.out _).mono ?_; rintro e w' ⟨rfl, rfl⟩) | (go_at_call 28; refine HA.out.mono ?_; rintro e w' ⟨rfl, rfl⟩))
        go_roundg (r.length - (k + 1))
        case measure => have := HM.out; omega
        case rel => exact ⟨k + 1, _, by simp, rfl, HX.out⟩
      · have HX := Lib.hid (HNN.out.bad HC.out hf)
        have hf2 : 16 ≤ (figure c : Int) := by omega
        go_wp2_with (first | (go_at_call 29; refine (HF.out _).mono ?_; rintro e w' ⟨rfl, rfl⟩) | go_in)
        go_ret2
        exact ⟨by rw [HX.out]; rfl, HNN.out.be⟩
    · obtain rfl : k = r.length := by omega
      have HX := Lib.hid (HNN.out.done)
      go_wp2_with fail
      go_ret2
      exact ⟨by rw [HX.out]; rfl, HNN.out.be⟩
set_option maxHeartbeats 4000000 in
theorem number_o (s : ByteArray) (d : UInt8) (r0 : List UInt8) (h3 : ¬ (d = 120 ∨ d = 88)) (hl : s.data.toList = 48 :: d :: r0) (w : World) (hs : s.size ≤ 1000000) :
    Calls Tryd.prog 17 #[.string s] w fun e w' => e = .returned (numV (numR 8 (d :: r0) 0)) ∧ Below w.heap.size w w' := by
  have hcv := fun w s => Lib.run_convert_string_bytes (P := Tryd.prog) w 9 37 5 s Tryd.underlying9 Tryd.underlying37 Tryd.underlying5
  have hz : s.size = r0.length + 2 := by
    have : s.data.toList.length = s.size := by simp
    rw [hl] at this; simp at this; omega
  have hz2 : s.toList.isEmpty = false := by rw [ByteArray.toList_eq, hl]; rfl
  have h2 : (2 : Int) ≤ (s.size : Int) := by omega
  have h1 : (1 : Int) < (s.size : Int) := by omega
  have hpos : 0 < s.size := by omega
  have h0 : s[0] = 48 := byte_head hl hpos
  have HL := Lib.hid hl
  clear hl hz
  have hr0 : (s.extract 1 s.size).data.toList = d :: r0 := by
    rw [Lib.extract_to_end, HL.out]; rfl
  obtain ⟨r, hr⟩ : ∃ r, r = (d :: r0) := ⟨_, rfl⟩
  rw [← hr]
  rw [← hr] at hr0
  have HR := Lib.hid hr
  have N0 : NumRel w 8 r w.heap.size (w.heap.size + 1) (w.heap.size + 1 + 1) 0 0 (Lib.bytesWorld ((w.alloc (.cells #[.int .i64 8] 3)).alloc (.cells #[.int .i64 0] 3)) 5 (s.extract 1 s.size)) := by
    have hk := bytesWorld_below ((w.alloc (.cells #[.int .i64 8] 3)).alloc (.cells #[.int .i64 0] 3)) 5 (s.extract 1 s.size)
    have h1 : Blk ((w.alloc (.cells #[.int .i64 8] 3)).alloc (.cells #[.int .i64 0] 3)) w.heap.size 3 #[.int .i64 8] := (Blk.new w _ _).alloc _
    have h2 : Blk ((w.alloc (.cells #[.int .i64 8] 3)).alloc (.cells #[.int .i64 0] 3)) (w.heap.size + 1) 3 #[.int .i64 0] := by have := Blk.new (w.alloc (.cells #[.int .i64 8] 3)) 3 #[.int .i64 0]; simpa using this
    have h3 := BytesB.new ((w.alloc (.cells #[.int .i64 8] 3)).alloc (.cells #[.int .i64 0] 3)) (s.extract 1 s.size)
    rw [hr0] at h3
    have hb : Below w.heap.size w ((w.alloc (.cells #[.int .i64 8] 3)).alloc (.cells #[.int .i64 0] 3)) := ((Below.refl _ _).alloc (Nat.le_refl _) _).alloc (by simp) _
    have h4 : ((w.alloc (.cells #[.int .i64 8] 3)).alloc (.cells #[.int .i64 0] 3)).heap.size = w.heap.size + 1 + 1 := by simp
    rw [h4] at h3
    exact ⟨Nat.zero_le _, Nat.zero_le _, by rw [List.drop_zero], h1.keep hk, h2.keep hk, h3, belowOn hb (by simp; omega) hk, by omega, by omega⟩
  have N1 := Lib.hid N0
  clear N0
  have hsz : r.length = s.size - 1 := by
    have : (s.extract 1 s.size).data.toList.length = (s.extract 1 s.size).size := by simp
    rw [hr0, ByteArray.size_extract] at this
    omega
  have HSZ := Lib.hid hsz
  clear hr hr0 hsz
  go_enter Tryd.func17, Tryd.ntmps17
  go_wp2_with fail
  refine (Tryd.strings_HasPrefix _ _ _).mono ?_
  rintro e w' ⟨rfl, rfl⟩
  rw [show Lib.hasPrefix s.data.toList (ByteArray.mk #[48, 120]).data.toList = false by rw [HL.out]; exact hp_no fun e => h3 (.inl e)]
  go_wp2_with fail
  refine (Tryd.strings_HasPrefix _ _ _).mono ?_
  rintro e w' ⟨rfl, rfl⟩
  rw [show Lib.hasPrefix s.data.toList (ByteArray.mk #[48, 88]).data.toList = false by rw [HL.out]; exact hp_no fun e => h3 (.inr e)]
  go_wp2_with fail
  rw [← HSZ.out]
  generalize Lib.bytesWorld ((w.alloc (.cells #[.int .i64 8] 3)).alloc (.cells #[.int .i64 0] 3)) 5 (s.extract 1 s.size) = W at N1 ⊢
  generalize grownCap ((w.alloc (.cells #[.int .i64 8] 3)).alloc (.cells #[.int .i64 0] 3)) r.length 0 5 = cap
  generalize w.heap.size + 1 + 1 = g at N1 ⊢
  generalize w.heap.size + 1 = nb at N1 ⊢
  clear hcv
  have hrl : r.length ≤ 1000000 := by have := HSZ.out; omega
  go_loopg [42] r.length (fun m v42 w' => Hid (∃ (k n : Nat), v42 = .int .i64 k ∧ m = r.length - k ∧ NumRel w 8 r w.heap.size nb g k n w'))
  case atStart => exact ⟨0, 0, rfl, rfl, N1.out⟩
  case round =>
    obtain ⟨k, n, rfl, hm, hN⟩ := hrel.out
    clear hrel N1
    have HM := Lib.hid hm
    have hle := hN.le
    have hnm : n ≤ 1099511627776 := hN.n_le
    have b0 := hN.base.cell 0
    have n0 := hN.box.cell 0
    have nf := hN.box.frozen
    simp only [List.getElem?_toArray, List.getElem?_cons_zero, List.getElem?_cons_succ] at b0 n0
    have HNN := Lib.hid hN
    clear hm hN
    by_cases hlt : k < r.length
    · obtain ⟨c, hc⟩ : ∃ c, r[k]? = some c := ⟨_, List.getElem?_eq_getElem hlt⟩
      have hcell := HNN.out.row.cell hc
      have hfl := figure_le c
      have HC := Lib.hid hc
      clear hc
      have HF := Lib.hid (fun W => figure_calls c W)
      by_cases hf : figure c < 8
      · have HX := Lib.hid (HNN.out.next HC.out hf)
        have HA := Lib.hid (add_calls n 8 (figure c) hnm (by omega) hfl n0 (nf 0) b0)
        obtain ⟨F, hF⟩ : ∃ F, F = figure c := ⟨_, rfl⟩
        rw [← hF] at HX HF HA hf hfl
        clear hF
        have hf2 : (F : Int) < 8 := by omega
        go_wp2_with (first | (go_at_call 29; refine (HF.out _).mono ?_; rintro e w' ⟨rfl, rfl⟩) | (go_at_call 28; refine HA.out.mono ?_; rintro e w' ⟨rfl, rfl⟩))
        go_roundg (r.length - (k + 1))
        case measure => have := HM.out; omega
        case rel => exact ⟨k + 1, _, by simp, rfl, HX.out⟩
      · have HX := Lib.hid (HNN.out.bad HC.out hf)
        have hf2 : 8 ≤ (figure c : Int) := by omega
        go_wp2_with (first | (go_at_call 29; refine (HF.out _).mono ?_; rintro e w' ⟨rfl, rfl⟩) | go_in)
        go_ret2
        exact ⟨by rw [HX.out]; rfl, HNN.out.be⟩
    · obtain rfl : k = r.length := by omega
      have HX := Lib.hid (HNN.out.done)
      go_wp2_with fail
      go_ret2
      exact ⟨by rw [HX.out]; rfl, HNN.out.be⟩
set_option maxHeartbeats 4000000 in
theorem number_d (s : ByteArray) (c d : UInt8) (r0 : List UInt8) (h3 : c ≠ 48) (hl : s.data.toList = c :: d :: r0) (w : World) (hs : s.size ≤ 1000000) :
    Calls Tryd.prog 17 #[.string s] w fun e w' => e = .returned (numV (numR 10 (c :: d :: r0) 0)) ∧ Below w.heap.size w w' := by
  have hcv := fun w s => Lib.run_convert_string_bytes (P := Tryd.prog) w 9 37 5 s Tryd.underlying9 Tryd.underlying37 Tryd.underlying5
  have hz : s.size = r0.length + 2 := by
    have : s.data.toList.length = s.size := by simp
    rw [hl] at this; simp at this; omega
  have hz2 : s.toList.isEmpty = false := by rw [ByteArray.toList_eq, hl]; rfl
  have h1 : (1 : Int) < (s.size : Int) := by omega
  have hpos : 0 < s.size := by omega
  have h0 : ((s[0].toNat : Int) == 48) = false := by rw [byte_head hl hpos]; exact ne48 h3
  have HL := Lib.hid hl
  clear hl hz
  have hr0 : (s).data.toList = c :: d :: r0 := by
    rw [HL.out]
  obtain ⟨r, hr⟩ : ∃ r, r = (c :: d :: r0) := ⟨_, rfl⟩
  rw [← hr]
  rw [← hr] at hr0
  have HR := Lib.hid hr
  have N0 : NumRel w 10 r w.heap.size (w.heap.size + 1) (w.heap.size + 1 + 1) 0 0 (Lib.bytesWorld ((w.alloc (.cells #[.int .i64 10] 3)).alloc (.cells #[.int .i64 0] 3)) 5 (s)) := by
    have hk := bytesWorld_below ((w.alloc (.cells #[.int .i64 10] 3)).alloc (.cells #[.int .i64 0] 3)) 5 (s)
    have h1 : Blk ((w.alloc (.cells #[.int .i64 10] 3)).alloc (.cells #[.int .i64 0] 3)) w.heap.size 3 #[.int .i64 10] := (Blk.new w _ _).alloc _
    have h2 : Blk ((w.alloc (.cells #[.int .i64 10] 3)).alloc (.cells #[.int .i64 0] 3)) (w.heap.size + 1) 3 #[.int .i64 0] := by have := Blk.new (w.alloc (.cells #[.int .i64 10] 3)) 3 #[.int .i64 0]; simpa using this
    have h3 := BytesB.new ((w.alloc (.cells #[.int .i64 10] 3)).alloc (.cells #[.int .i64 0] 3)) (s)
    rw [hr0] at h3
    have hb : Below w.heap.size w ((w.alloc (.cells #[.int .i64 10] 3)).alloc (.cells #[.int .i64 0] 3)) := ((Below.refl _ _).alloc (Nat.le_refl _) _).alloc (by simp) _
    have h4 : ((w.alloc (.cells #[.int .i64 10] 3)).alloc (.cells #[.int .i64 0] 3)).heap.size = w.heap.size + 1 + 1 := by simp
    rw [h4] at h3
    exact ⟨Nat.zero_le _, Nat.zero_le _, by rw [List.drop_zero], h1.keep hk, h2.keep hk, h3, belowOn hb (by simp; omega) hk, by omega, by omega⟩
  have N1 := Lib.hid N0
  clear N0
  have hsz : r.length = s.size := by
    have : (s).data.toList.length = (s).size := by simp
    rw [hr0] at this
    omega
  have HSZ := Lib.hid hsz
  clear hr hr0 hsz
  go_enter Tryd.func17, Tryd.ntmps17
  go_wp2_with fail
  refine (Tryd.strings_HasPrefix _ _ _).mono ?_
  rintro e w' ⟨rfl, rfl⟩
  rw [show Lib.hasPrefix s.data.toList (ByteArray.mk #[48, 120]).data.toList = false by rw [HL.out]; exact hp_no0 h3]
  go_wp2_with fail
  refine (Tryd.strings_HasPrefix _ _ _).mono ?_
  rintro e w' ⟨rfl, rfl⟩
  rw [show Lib.hasPrefix s.data.toList (ByteArray.mk #[48, 88]).data.toList = false by rw [HL.out]; exact hp_no0 h3]
  go_wp2_with fail
  generalize s[0] = z0 at h0 ⊢
  rw [← HSZ.out]
  generalize Lib.bytesWorld ((w.alloc (.cells #[.int .i64 10] 3)).alloc (.cells #[.int .i64 0] 3)) 5 (s) = W at N1 ⊢
  generalize grownCap ((w.alloc (.cells #[.int .i64 10] 3)).alloc (.cells #[.int .i64 0] 3)) r.length 0 5 = cap
  generalize w.heap.size + 1 + 1 = g at N1 ⊢
  generalize w.heap.size + 1 = nb at N1 ⊢
  clear hcv
  have hrl : r.length ≤ 1000000 := by have := HSZ.out; omega
  go_loopg [42] r.length (fun m v42 w' => Hid (∃ (k n : Nat), v42 = .int .i64 k ∧ m = r.length - k ∧ NumRel w 10 r w.heap.size nb g k n w'))
  case atStart => exact ⟨0, 0, rfl, rfl, N1.out⟩
  case round =>
    obtain ⟨k, n, rfl, hm, hN⟩ := hrel.out
    clear hrel N1
    have HM := Lib.hid hm
    have hle := hN.le
    have hnm : n ≤ 1099511627776 := hN.n_le
    have b0 := hN.base.cell 0
    have n0 := hN.box.cell 0
    have nf := hN.box.frozen
    simp only [List.getElem?_toArray, List.getElem?_cons_zero, List.getElem?_cons_succ] at b0 n0
    have HNN := Lib.hid hN
    clear hm hN
    by_cases hlt : k < r.length
    · obtain ⟨c, hc⟩ : ∃ c, r[k]? = some c := ⟨_, List.getElem?_eq_getElem hlt⟩
      have hcell := HNN.out.row.cell hc
      have hfl := figure_le c
      have HC := Lib.hid hc
      clear hc
      have HF := Lib.hid (fun W => figure_calls c W)
      by_cases hf : figure c < 10
      · have HX := Lib.hid (HNN.out.next HC.out hf)
        have HA := Lib.hid (add_calls n 10 (figure c) hnm (by omega) hfl n0 (nf 0) b0)
        obtain ⟨F, hF⟩ : ∃ F, F = figure c := ⟨_, rfl⟩
        rw [← hF] at HX HF HA hf hfl
        clear hF
        have hf2 : (F : Int) < 10 := by omega
        go_wp2_with (first | (go_at_call 29; refine (HF.out _).mono ?_; rintro e w' ⟨rfl, rfl⟩) | (go_at_call 28; refine HA.out.mono ?_; rintro e w' ⟨rfl, rfl⟩))
        go_roundg (r.length - (k + 1))
        case measure => have := HM.out; omega
        case rel => exact ⟨k + 1, _, by simp, rfl, HX.out⟩
      · have HX := Lib.hid (HNN.out.bad HC.out hf)
        have hf2 : 10 ≤ (figure c : Int) := by omega
        go_wp2_with (first | (go_at_call 29; refine (HF.out _).mono ?_; rintro e w' ⟨rfl, rfl⟩) | go_in)
        go_ret2
        exact ⟨by rw [HX.out]; rfl, HNN.out.be⟩
    · obtain rfl : k = r.length := by omega
      have HX := Lib.hid (HNN.out.done)
      go_wp2_with fail
      go_ret2
      exact ⟨by rw [HX.out]; rfl, HNN.out.be⟩
set_option maxHeartbeats 4000000 in
theorem number_s (s : ByteArray) (c : UInt8) (hl : s.data.toList = [c]) (w : World) (hs : s.size ≤ 1000000) :
    Calls Tryd.prog 17 #[.string s] w fun e w' => e = .returned (numV (numR 10 [c] 0)) ∧ Below w.heap.size w w' := by
  have hcv := fun w s => Lib.run_convert_string_bytes (P := Tryd.prog) w 9 37 5 s Tryd.underlying9 Tryd.underlying37 Tryd.underlying5
  have hz : s.size = 1 := by
    have : s.data.toList.length = s.size := by simp
    rw [hl] at this; simp at this; omega
  have hz2 : s.toList.isEmpty = false := by rw [ByteArray.toList_eq, hl]; rfl
  have h1 : ¬ (1 : Int) < (s.size : Int) := by omega
  have HL := Lib.hid hl
  clear hl hz
  have hr0 : (s).data.toList = [c] := by
    rw [HL.out]
  obtain ⟨r, hr⟩ : ∃ r, r = [c] := ⟨_, rfl⟩
  rw [← hr]
  rw [← hr] at hr0
  have HR := Lib.hid hr
  have N0 : NumRel w 10 r w.heap.size (w.heap.size + 1) (w.heap.size + 1 + 1) 0 0 (Lib.bytesWorld ((w.alloc (.cells #[.int .i64 10] 3)).alloc (.cells #[.int .i64 0] 3)) 5 (s)) := by
    have hk := bytesWorld_below ((w.alloc (.cells #[.int .i64 10] 3)).alloc (.cells #[.int .i64 0] 3)) 5 (s)
    have h1 : Blk ((w.alloc (.cells #[.int .i64 10] 3)).alloc (.cells #[.int .i64 0] 3)) w.heap.size 3 #[.int .i64 10] := (Blk.new w _ _).alloc _
    have h2 : Blk ((w.alloc (.cells #[.int .i64 10] 3)).alloc (.cells #[.int .i64 0] 3)) (w.heap.size + 1) 3 #[.int .i64 0] := by have := Blk.new (w.alloc (.cells #[.int .i64 10] 3)) 3 #[.int .i64 0]; simpa using this
    have h3 := BytesB.new ((w.alloc (.cells #[.int .i64 10] 3)).alloc (.cells #[.int .i64 0] 3)) (s)
    rw [hr0] at h3
    have hb : Below w.heap.size w ((w.alloc (.cells #[.int .i64 10] 3)).alloc (.cells #[.int .i64 0] 3)) := ((Below.refl _ _).alloc (Nat.le_refl _) _).alloc (by simp) _
    have h4 : ((w.alloc (.cells #[.int .i64 10] 3)).alloc (.cells #[.int .i64 0] 3)).heap.size = w.heap.size + 1 + 1 := by simp
    rw [h4] at h3
    exact ⟨Nat.zero_le _, Nat.zero_le _, by rw [List.drop_zero], h1.keep hk, h2.keep hk, h3, belowOn hb (by simp; omega) hk, by omega, by omega⟩
  have N1 := Lib.hid N0
  clear N0
  have hsz : r.length = s.size := by
    have : (s).data.toList.length = (s).size := by simp
    rw [hr0] at this
    omega
  have HSZ := Lib.hid hsz
  clear hr hr0 hsz
  go_enter Tryd.func17, Tryd.ntmps17
  go_wp2_with fail
  refine (Tryd.strings_HasPrefix _ _ _).mono ?_
  rintro e w' ⟨rfl, rfl⟩
  rw [show Lib.hasPrefix s.data.toList (ByteArray.mk #[48, 120]).data.toList = false by rw [HL.out]; exact hp_no1]
  go_wp2_with fail
  refine (Tryd.strings_HasPrefix _ _ _).mono ?_
  rintro e w' ⟨rfl, rfl⟩
  rw [show Lib.hasPrefix s.data.toList (ByteArray.mk #[48, 88]).data.toList = false by rw [HL.out]; exact hp_no1]
  go_wp2_with fail
  rw [← HSZ.out]
  generalize Lib.bytesWorld ((w.alloc (.cells #[.int .i64 10] 3)).alloc (.cells #[.int .i64 0] 3)) 5 (s) = W at N1 ⊢
  generalize grownCap ((w.alloc (.cells #[.int .i64 10] 3)).alloc (.cells #[.int .i64 0] 3)) r.length 0 5 = cap
  generalize w.heap.size + 1 + 1 = g at N1 ⊢
  generalize w.heap.size + 1 = nb at N1 ⊢
  clear hcv
  have hrl : r.length ≤ 1000000 := by have := HSZ.out; omega
  go_loopg [42] r.length (fun m v42 w' => Hid (∃ (k n : Nat), v42 = .int .i64 k ∧ m = r.length - k ∧ NumRel w 10 r w.heap.size nb g k n w'))
  case atStart => exact ⟨0, 0, rfl, rfl, N1.out⟩
  case round =>
    obtain ⟨k, n, rfl, hm, hN⟩ := hrel.out
    clear hrel N1
    have HM := Lib.hid hm
    have hle := hN.le
    have hnm : n ≤ 1099511627776 := hN.n_le
    have b0 := hN.base.cell 0
    have n0 := hN.box.cell 0
    have nf := hN.box.frozen
    simp only [List.getElem?_toArray, List.getElem?_cons_zero, List.getElem?_cons_succ] at b0 n0
    have HNN := Lib.hid hN
    clear hm hN
    by_cases hlt : k < r.length
    · obtain ⟨c, hc⟩ : ∃ c, r[k]? = some c := ⟨_, List.getElem?_eq_getElem hlt⟩
      have hcell := HNN.out.row.cell hc
      have hfl := figure_le c
      have HC := Lib.hid hc
      clear hc
      have HF := Lib.hid (fun W => figure_calls c W)
      by_cases hf : figure c < 10
      · have HX := Lib.hid (HNN.out.next HC.out hf)
        have HA := Lib.hid (add_calls n 10 (figure c) hnm (by omega) hfl n0 (nf 0) b0)
        obtain ⟨F, hF⟩ : ∃ F, F = figure c := ⟨_, rfl⟩
        rw [← hF] at HX HF HA hf hfl
        clear hF
        have hf2 : (F : Int) < 10 := by omega
        go_wp2_with (first | (go_at_call 29; refine (HF.out _).mono ?_; rintro e w' ⟨rfl, rfl⟩) | (go_at_call 28; refine HA.out.mono ?_; rintro e w' ⟨rfl, rfl⟩))
        go_roundg (r.length - (k + 1))
        case measure => have := HM.out; omega
        case rel => exact ⟨k + 1, _, by simp, rfl, HX.out⟩
      · have HX := Lib.hid (HNN.out.bad HC.out hf)
        have hf2 : 10 ≤ (figure c : Int) := by omega
        go_wp2_with (first | (go_at_call 29; refine (HF.out _).mono ?_; rintro e w' ⟨rfl, rfl⟩) | go_in)
        go_ret2
        exact ⟨by rw [HX.out]; rfl, HNN.out.be⟩
    · obtain rfl : k = r.length := by omega
      have HX := Lib.hid (HNN.out.done)
      go_wp2_with fail
      go_ret2
      exact ⟨by rw [HX.out]; rfl, HNN.out.be⟩
theorem number_none (s : ByteArray) (hl : s.data.toList = []) (w : World) :
    Calls Tryd.prog 17 #[.string s] w fun e w' => e = .returned (numV none) ∧ Below w.heap.size w w' := by
  have hz2 : s.toList = [] := by rw [ByteArray.toList_eq, hl]
  have hz3 : s.toList.isEmpty = true := by rw [hz2]; rfl
  clear hl
  go_enter Tryd.func17, Tryd.ntmps17
  go_wp2_with fail
  go_ret2
  exact ⟨rfl, (Below.refl _ _).alloc (Nat.le_refl _) _⟩
theorem number_calls (s : ByteArray) (w : World) (hs : s.size ≤ 1000000) :
    Calls Tryd.prog 17 #[.string s] w fun e w' => e = .returned (numV (numL s.data.toList)) ∧ Below w.heap.size w w' := by
  match hl : s.data.toList with
  | [] => exact number_none s hl w
  | [c] => exact number_s s c hl w hs
  | c :: d :: l =>
    show Calls _ _ _ _ fun e w' => e = .returned (numV (if c = 48 then (if d = 120 ∨ d = 88 then numR 16 l 0 else numR 8 (d :: l) 0) else numR 10 (c :: d :: l) 0)) ∧ Below w.heap.size w w'
    by_cases h1 : c = 48
    · subst h1
      rw [if_pos rfl]
      by_cases h2 : d = 120 ∨ d = 88
      · rw [if_pos h2]
        rcases h2 with rfl | rfl
        · exact number_x s l hl w hs
        · exact number_X s l hl w hs
      · rw [if_neg h2]
        exact number_o s d l h2 hl w hs
    · rw [if_neg h1]
      exact number_d s c d l h1 hl w hs
end Go.Proofs.YtcclghpoodbdcaaDoor
