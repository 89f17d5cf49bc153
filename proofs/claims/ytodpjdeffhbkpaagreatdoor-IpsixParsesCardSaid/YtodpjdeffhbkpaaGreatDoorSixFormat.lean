/- What the world gives ipsix, and a number as a text by base 16. -/
import Derived.Test.YtodpjdeffhbkpaaGreatDoorShelf
import Derived.Test.YtodpjdeffhbkpaaGreatDoorBytes
import Derived.Test.YtodpjdeffhbkpaaGreatDoorSixPure
import Derived.Test.YtodpjdeffhbkpaaGreatDoorOpen
import Derived.Lib.Hide
set_option linter.unusedVariables false
set_option linter.unusedSimpArgs false
set_option maxRecDepth 100000
namespace Go.Proofs.YtodpjdeffhbkpaaGreatDoor
open Go.RowKit Four Six

structure FW (w : World) : Prop where
  ml : ∃ m, w.cell? ⟨1, 0, none⟩ = some (.int .i64 m)
  tz : w.cell? ⟨8, 15, none⟩ = some (.int .u8 4)
  syn : ∃ te pe, w.cell? ⟨3, 0, none⟩ = some (.iface te pe)
  rng : ∃ te pe, w.cell? ⟨4, 0, none⟩ = some (.iface te pe)
theorem FW.keep {w w' : World} (h : FW w) (hb : Below w.heap.size w w') : FW w' := by
  refine ⟨?_, ?_, ?_, ?_⟩
  · obtain ⟨m, e⟩ := h.ml
    exact ⟨m, (hb.cell (p := ⟨1, 0, none⟩) (World.block_lt_of_cell? w _ e)).trans e⟩
  · exact (hb.cell (p := ⟨8, 15, none⟩) (World.block_lt_of_cell? w _ h.tz)).trans h.tz
  · obtain ⟨te, pe, e⟩ := h.syn
    exact ⟨te, pe, (hb.cell (p := ⟨3, 0, none⟩) (World.block_lt_of_cell? w _ e)).trans e⟩
  · obtain ⟨te, pe, e⟩ := h.rng
    exact ⟨te, pe, (hb.cell (p := ⟨4, 0, none⟩) (World.block_lt_of_cell? w _ e)).trans e⟩

theorem tz64_calls {w : World} (hF : FW w) : Calls Tryz.prog 103 #[.int .u64 16] w fun e w' => e = .returned (.int .i64 4) ∧ w' = w := by
  have key : IntKind.u64.wrap (bits BinOp.and IntKind.u64 16 (IntKind.u64.wrap (-16)) * 285870213051353865) / 288230376151711744 = 15 := by decide +kernel
  have htz := hF.tz
  go_enter Tryz.func103, Tryz.ntmps103
  go_wp2_with fail
  go_ret
  exact ⟨rfl, rfl⟩
theorem tz_calls {w : World} (hF : FW w) : Calls Tryz.prog 93 #[.int .u64 16] w fun e w' => e = .returned (.int .i64 4) ∧ w' = w := by
  have HC := Lib.hid (tz64_calls hF)
  go_enter Tryz.func93, Tryz.ntmps93
  go_wp2_with fail
  refine HC.out.mono ?_
  rintro e w' ⟨rfl, rfl⟩
  go_wp2_with fail
  go_ret
  exact ⟨rfl, rfl⟩
theorem pow2_calls (w : World) : Calls Tryz.prog 92 #[.int .i64 16] w fun e w' => e = .returned (.bool true) ∧ w' = w := by
  go_enter Tryz.func92, Tryz.ntmps92
  go_wp2_with fail
  go_ret
  exact ⟨rfl, rfl⟩

/-- The box of a numeral: its last bytes are these. -/
structure HBox (w0 : World) (n k u : Nat) (w : World) : Prop where
  box : ∃ cs tail, Blk w w0.heap.size 148 cs ∧ cs.size = 65 ∧ tail.length = k ∧ hexL n = hexL u ++ tail ∧ ∀ (j : Nat) (c : UInt8), tail[j]? = some c → cs[65 - k + j]? = some (.int .u8 c.toNat)
  be : Below w0.heap.size w0 w
theorem hexL_lt {n : Nat} (h : n < 16) : hexL n = [hexd n] := by rw [hexL, dif_pos h]
theorem hexL_ge {n : Nat} (h : ¬ n < 16) : hexL n = hexL (n / 16) ++ [hexd (n % 16)] := by rw [hexL, dif_neg h]
theorem HBox.cell {w0 w : World} {n k u : Nat} (h : HBox w0 n k u w) (i : Nat) (hi : i < 65) : ∃ x, w.cell? ⟨w0.heap.size, i, none⟩ = some x := by
  obtain ⟨cs, tail, hb, hcs, _⟩ := h.box
  exact ⟨cs[i]'(by omega), by rw [hb.cell, Array.getElem?_eq_getElem (by omega)]⟩
theorem HBox.frozen {w0 w : World} {n k u : Nat} (h : HBox w0 n k u w) (i : Nat) : w.frozen? ⟨w0.heap.size, i, none⟩ = false := by
  obtain ⟨cs, tail, hb, _⟩ := h.box
  exact hb.frozen i
theorem HBox.start {cs : Array Value} (w0 : World) (n : Nat) (hz : cs.size = 65) : HBox w0 n 0 n (w0.alloc (.cells cs 148)) :=
  ⟨⟨cs, [], Blk.new w0 _ _, hz, rfl, by simp, fun j c h => by simp at h⟩, (Below.refl _ _).alloc (Nat.le_refl _) _⟩
theorem tail_next {cs : Array Value} {tail : List UInt8} {k : Nat} {d : UInt8} (hk : k ≤ 3) (hcs : cs.size = 65) (htl : tail.length = k) (h : ∀ (j : Nat) (c : UInt8), tail[j]? = some c → cs[65 - k + j]? = some (.int .u8 c.toNat)) :
    ∀ (j : Nat) (c : UInt8), (d :: tail)[j]? = some c → (cs.setIfInBounds (64 - k) (.int .u8 d.toNat))[65 - (k + 1) + j]? = some (.int .u8 c.toNat) := by
  intro j c hj
  cases j with
  | zero =>
    obtain rfl : d = c := by simpa using hj
    have e : 65 - (k + 1) + 0 = 64 - k := by omega
    rw [e, Array.getElem?_setIfInBounds_self_of_lt (by omega)]
  | succ i =>
    have hi := h i c (by simpa using hj)
    have e : 65 - (k + 1) + (i + 1) = 65 - k + i := by omega
    rw [e, Array.getElem?_setIfInBounds_ne (by omega)]
    exact hi
theorem HBox.next {w0 w : World} {n k u i : Nat} (h : HBox w0 n k u w) (hk : k ≤ 3) (hi : i = 64 - k) (hu : 16 ≤ u) : HBox w0 n (k + 1) (u / 16) (w.setCell ⟨w0.heap.size, i, none⟩ (.int .u8 (hexd (u % 16)).toNat)) := by
  subst hi
  obtain ⟨cs, tail, hb, hcs, htl, hx, htc⟩ := h.box
  exact ⟨⟨_, hexd (u % 16) :: tail, hb.set_ _ _, by simpa using hcs, by simp [htl], by rw [hx, hexL_ge (by omega), List.append_assoc]; rfl, tail_next hk hcs htl htc⟩, h.be.setCell (Nat.le_refl _) _⟩
theorem HBox.fin {w0 w : World} {n k u i : Nat} (h : HBox w0 n k u w) (hk : k ≤ 3) (hi : i = 64 - k) (hu : u < 16) : (convert 42 9 (.slice (some ⟨w0.heap.size, i, none⟩) (k + 1) (k + 1))).run Tryz.prog (w.setCell ⟨w0.heap.size, i, none⟩ (.int .u8 (hexd u).toNat)) = .ok (.string (mkB (hexL n))) (w.setCell ⟨w0.heap.size, i, none⟩ (.int .u8 (hexd u).toNat)) ∧ Below w0.heap.size w0 (w.setCell ⟨w0.heap.size, i, none⟩ (.int .u8 (hexd u).toNat)) := by
  subst hi
  refine ⟨?_, h.be.setCell (Nat.le_refl _) _⟩
  obtain ⟨cs, tail, hb, hcs, htl, hx, htc⟩ := h.box
  have e : hexL n = hexd u :: tail := by rw [hx, hexL_lt hu]; rfl
  have hl : (hexd u :: tail).length = k + 1 := by simp [htl]
  rw [e, ← hl]
  unfold mkB
  refine run_convert_bytes_back _ 42 9 5 ⟨w0.heap.size, 64 - k, none⟩ _ (hexd u :: tail) Tryz.underlying42 Tryz.underlying5 Tryz.underlying9 (fun j hj => ?_)
  have := tail_next (d := hexd u) hk hcs htl htc j _ (List.getElem?_eq_getElem hj)
  have e2 : ((⟨w0.heap.size, 64 - k, none⟩ : Addr).add j) = ⟨w0.heap.size, 65 - (k + 1) + j, none⟩ := by unfold Addr.add; split <;> simp_all <;> omega
  rw [e2, (hb.set_ (64 - k) (.int .u8 (hexd u).toNat)).cell, this]
def figsB : ByteArray := ⟨#[48, 49, 50, 51, 52, 53, 54, 55, 56, 57, 97, 98, 99, 100, 101, 102, 103, 104, 105, 106, 107, 108, 109, 110, 111, 112, 113, 114, 115, 116, 117, 118, 119, 120, 121, 122]⟩
theorem figs_at : ∀ r, (h : r < 16) → figsB[r]'(by have : figsB.size = 36 := rfl; omega) = hexd r := by decide +kernel
theorem wraps_u64' (n : Int) (h₀ : 0 ≤ n) (h₁ : n < 2 ^ 20) : IntKind.u64.wrap n = n := by rw [IntKind.wrap_u64]; omega
theorem and15 (x : Nat) (hx : x < 65536) : bits .and .u64 (x : Int) 15 = ((x % 16 : Nat) : Int) := by
  have h := bits_mask .u64 20 (by decide) wraps_u64' 4 (by decide) (x : Int) (by omega) (by omega)
  have e : ((2 : Int) ^ 4 - 1) = 15 := by decide
  rw [e] at h
  rw [h]
  omega
set_option maxHeartbeats 4000000 in
theorem format_calls (n : Nat) (hn : n < 65536) {w : World} (hF : FW w) :
    Calls Tryz.prog 72 #[.slice none 0 0, .int .u64 n, .int .i64 16, .bool false, .bool false] w fun e w' => e = .returned (.tuple #[.slice none 0 0, .string (mkB (hexL n))]) ∧ Below w.heap.size w w' := by
  have HF := Lib.hid hF
  clear hF
  go_enter Tryz.func72, Tryz.ntmps72
  go_wp2_with fail
  refine (pow2_calls _).mono ?_
  rintro e w' ⟨rfl, rfl⟩
  go_wp2_with fail
  refine (tz_calls (HF.out.keep ((Below.refl _ _).alloc (Nat.le_refl _) _))).mono ?_
  rintro e w' ⟨rfl, rfl⟩
  go_wp2_with fail
  go_loopg [13, 1] 4 (fun m v13 v1 w' => Hid (∃ (k u : Nat), k ≤ 3 ∧ v13 = .int .i64 (65 - (k : Int)) ∧ v1 = .int .u64 u ∧ m = 4 - k ∧ u < 16 ^ (4 - k) ∧ HBox w n k u w'))
  case atStart => exact ⟨0, n, by omega, rfl, rfl, rfl, hn, HBox.start w n (by rfl)⟩
  case round =>
    obtain ⟨k, u, hk, rfl, rfl, hm, hu, hB⟩ := hrel.out
    clear hrel
    have HM := Lib.hid hm
    have HB := Lib.hid hB
    clear hm hB
    have hu2 : u < 65536 := Nat.lt_of_lt_of_le hu (Nat.le_trans (Nat.pow_le_pow_right (j := 4) (by decide : 0 < 16) (by omega)) (by decide))
    by_cases h16 : 16 ≤ u
    · have HN := Lib.hid (fun (i : Nat) (hi : i = 64 - k) => HB.out.next hk hi h16)
      have hr := and15 u hu2
      have HU := Lib.hid (show u / 16 < 16 ^ (4 - (k + 1)) from by
        rw [Nat.div_lt_iff_lt_mul (by decide), ← Nat.pow_succ]
        exact Nat.lt_of_lt_of_le hu (Nat.pow_le_pow_right (by decide) (by omega)))
      have hrl : u % 16 < 16 := Nat.mod_lt _ (by decide)
      obtain ⟨r, hre⟩ : ∃ r, r = u % 16 := ⟨_, rfl⟩
      rw [← hre] at hr hrl HN
      have HG := Lib.hid (figs_at r hrl)
      clear hre
      have hk3 : k ≠ 3 := by
        rintro rfl
        have : u < 16 := by simpa using hu
        omega
      have h16' : (16 : Int) ≤ (u : Int) := by omega
      clear hu
      obtain rfl | rfl | rfl : k = 0 ∨ k = 1 ∨ k = 2 := by omega
      · obtain ⟨x0, hc⟩ := HB.out.cell 64 (by decide)
        have hf := HB.out.frozen 64
        go_wp2_with fail
        rw [show (({ data := #[48, 49, 50, 51, 52, 53, 54, 55, 56, 57, 97, 98, 99, 100, 101, 102, 103, 104, 105, 106, 107, 108, 109, 110, 111, 112, 113, 114, 115, 116, 117, 118, 119, 120, 121, 122] } : ByteArray)[r]'(by have : figsB.size = 36 := rfl; show r < figsB.size; omega)) = hexd r from HG.out]
        have HN2 := Lib.hid (HN.out 64 rfl)
        go_roundg (3)
        case measure => have := HM.out; omega
        case rel => exact ⟨0 + 1, u / 16, by omega, rfl, by first | rfl | go_num, rfl, HU.out, HN2.out⟩
      · obtain ⟨x0, hc⟩ := HB.out.cell 63 (by decide)
        have hf := HB.out.frozen 63
        go_wp2_with fail
        rw [show (({ data := #[48, 49, 50, 51, 52, 53, 54, 55, 56, 57, 97, 98, 99, 100, 101, 102, 103, 104, 105, 106, 107, 108, 109, 110, 111, 112, 113, 114, 115, 116, 117, 118, 119, 120, 121, 122] } : ByteArray)[r]'(by have : figsB.size = 36 := rfl; show r < figsB.size; omega)) = hexd r from HG.out]
        have HN2 := Lib.hid (HN.out 63 rfl)
        go_roundg (2)
        case measure => have := HM.out; omega
        case rel => exact ⟨1 + 1, u / 16, by omega, rfl, by first | rfl | go_num, rfl, HU.out, HN2.out⟩
      · obtain ⟨x0, hc⟩ := HB.out.cell 62 (by decide)
        have hf := HB.out.frozen 62
        go_wp2_with fail
        rw [show (({ data := #[48, 49, 50, 51, 52, 53, 54, 55, 56, 57, 97, 98, 99, 100, 101, 102, 103, 104, 105, 106, 107, 108, 109, 110, 111, 112, 113, 114, 115, 116, 117, 118, 119, 120, 121, 122] } : ByteArray)[r]'(by have : figsB.size = 36 := rfl; show r < figsB.size; omega)) = hexd r from HG.out]
        have HN2 := Lib.hid (HN.out 62 rfl)
        go_roundg (1)
        case measure => have := HM.out; omega
        case rel => exact ⟨2 + 1, u / 16, by omega, rfl, by first | rfl | go_num, rfl, HU.out, HN2.out⟩
    · have HN := Lib.hid (fun (i : Nat) (hi : i = 64 - k) => HB.out.fin hk hi (by omega))
      have hul : u < 16 := by omega
      have h16' : ¬ (16 : Int) ≤ (u : Int) := by omega
      have HG := Lib.hid (figs_at u (by omega))
      clear hu h16
      obtain rfl | rfl | rfl | rfl : k = 0 ∨ k = 1 ∨ k = 2 ∨ k = 3 := by omega
      · obtain ⟨x0, hc⟩ := HB.out.cell 64 (by decide)
        have hf := HB.out.frozen 64
        have hE := (HN.out 64 rfl).1
        have HE := Lib.hid (HN.out 64 rfl).2
        rw [← show (({ data := #[48, 49, 50, 51, 52, 53, 54, 55, 56, 57, 97, 98, 99, 100, 101, 102, 103, 104, 105, 106, 107, 108, 109, 110, 111, 112, 113, 114, 115, 116, 117, 118, 119, 120, 121, 122] } : ByteArray)[u]'(by have : figsB.size = 36 := rfl; show u < figsB.size; omega)) = hexd u from HG.out] at hE HE
        go_wp2_with fail
        go_ret2
        exact ⟨rfl, HE.out⟩
      · obtain ⟨x0, hc⟩ := HB.out.cell 63 (by decide)
        have hf := HB.out.frozen 63
        have hE := (HN.out 63 rfl).1
        have HE := Lib.hid (HN.out 63 rfl).2
        rw [← show (({ data := #[48, 49, 50, 51, 52, 53, 54, 55, 56, 57, 97, 98, 99, 100, 101, 102, 103, 104, 105, 106, 107, 108, 109, 110, 111, 112, 113, 114, 115, 116, 117, 118, 119, 120, 121, 122] } : ByteArray)[u]'(by have : figsB.size = 36 := rfl; show u < figsB.size; omega)) = hexd u from HG.out] at hE HE
        go_wp2_with fail
        go_ret2
        exact ⟨rfl, HE.out⟩
      · obtain ⟨x0, hc⟩ := HB.out.cell 62 (by decide)
        have hf := HB.out.frozen 62
        have hE := (HN.out 62 rfl).1
        have HE := Lib.hid (HN.out 62 rfl).2
        rw [← show (({ data := #[48, 49, 50, 51, 52, 53, 54, 55, 56, 57, 97, 98, 99, 100, 101, 102, 103, 104, 105, 106, 107, 108, 109, 110, 111, 112, 113, 114, 115, 116, 117, 118, 119, 120, 121, 122] } : ByteArray)[u]'(by have : figsB.size = 36 := rfl; show u < figsB.size; omega)) = hexd u from HG.out] at hE HE
        go_wp2_with fail
        go_ret2
        exact ⟨rfl, HE.out⟩
      · obtain ⟨x0, hc⟩ := HB.out.cell 61 (by decide)
        have hf := HB.out.frozen 61
        have hE := (HN.out 61 rfl).1
        have HE := Lib.hid (HN.out 61 rfl).2
        rw [← show (({ data := #[48, 49, 50, 51, 52, 53, 54, 55, 56, 57, 97, 98, 99, 100, 101, 102, 103, 104, 105, 106, 107, 108, 109, 110, 111, 112, 113, 114, 115, 116, 117, 118, 119, 120, 121, 122] } : ByteArray)[u]'(by have : figsB.size = 36 := rfl; show u < figsB.size; omega)) = hexd u from HG.out] at hE HE
        go_wp2_with fail
        go_ret2
        exact ⟨rfl, HE.out⟩
theorem formatin_calls (n : Nat) (hn : n < 65536) {w : World} (hF : FW w) :
    Calls Tryz.prog 49 #[.int .u64 n, .int .i64 16] w fun e w' => e = .returned (.string (mkB (hexL n))) ∧ Below w.heap.size w w' := by
  have HC := Lib.hid (format_calls n hn hF)
  clear hF
  go_enter Tryz.func49, Tryz.ntmps49
  go_wp2_with fail
  refine HC.out.mono ?_
  rintro e w' ⟨rfl, hb⟩
  have HB := Lib.hid hb
  clear hb
  go_wp2_with fail
  go_ret
  exact ⟨rfl, HB.out⟩
/-- strconv.FormatUint(n, 16), n of 16 bits. -/
theorem formatU_calls (n : Nat) (hn : n < 65536) {w : World} (hF : FW w) :
    Calls Tryz.prog 39 #[.int .u64 n, .int .i64 16] w fun e w' => e = .returned (.string (mkB (hexL n))) ∧ Below w.heap.size w w' := by
  have HC := Lib.hid (formatin_calls n hn hF)
  clear hF
  go_enter Tryz.func39, Tryz.ntmps39
  go_wp2_with fail
  refine HC.out.mono ?_
  rintro e w' ⟨rfl, hb⟩
  have HB := Lib.hid hb
  clear hb
  go_wp2_with fail
  go_ret
  exact ⟨rfl, HB.out⟩
end Go.Proofs.YtodpjdeffhbkpaaGreatDoor
