/- A number as a text by base 16; pieces joined; the longest run; ipsix.Text. -/
import Derived.Test.YtgljkgkmbfhgiaaDoorHostWorld
import Derived.Test.YtgljkgkmbfhgiaaDoorSixBack
import Derived.Deep.RegionHeld3
set_option linter.unusedVariables false
set_option linter.unusedSimpArgs false
set_option maxRecDepth 100000
namespace Go.Proofs.YtgljkgkmbfhgiaaDoor
open Go.RowKit Four Six

theorem tz64_calls {w : World} (hF : FW w) : Calls Tryd.prog 106 #[.int .u64 16] w fun e w' => e = .returned (.int .i64 4) ∧ w' = w := by
  have key : IntKind.u64.wrap (bits BinOp.and IntKind.u64 16 (IntKind.u64.wrap (-16)) * 285870213051353865) / 288230376151711744 = 15 := by decide +kernel
  have htz := hF.tz
  go_enter Tryd.func106, Tryd.ntmps106
  go_wp2_with fail
  go_ret
  exact ⟨rfl, rfl⟩
theorem tz_calls {w : World} (hF : FW w) : Calls Tryd.prog 100 #[.int .u64 16] w fun e w' => e = .returned (.int .i64 4) ∧ w' = w := by
  have HC := Lib.hid (tz64_calls hF)
  go_enter Tryd.func100, Tryd.ntmps100
  go_wp2_with fail
  refine HC.out.mono ?_
  rintro e w' ⟨rfl, rfl⟩
  go_wp2_with fail
  go_ret
  exact ⟨rfl, rfl⟩
theorem pow2_calls (w : World) : Calls Tryd.prog 99 #[.int .i64 16] w fun e w' => e = .returned (.bool true) ∧ w' = w := by
  go_enter Tryd.func99, Tryd.ntmps99
  go_wp2_with fail
  go_ret
  exact ⟨rfl, rfl⟩

/-- The box of a numeral: its last bytes are these. -/
structure HBox (w0 : World) (n k u : Nat) (w : World) : Prop where
  box : ∃ cs tail, Blk w w0.heap.size 129 cs ∧ cs.size = 65 ∧ tail.length = k ∧ hexL n = hexL u ++ tail ∧ ∀ (j : Nat) (c : UInt8), tail[j]? = some c → cs[65 - k + j]? = some (.int .u8 c.toNat)
  be : Below w0.heap.size w0 w
theorem hexL_lt {n : Nat} (h : n < 16) : hexL n = [hexd n] := by rw [hexL, dif_pos h]
theorem hexL_ge {n : Nat} (h : ¬ n < 16) : hexL n = hexL (n / 16) ++ [hexd (n % 16)] := by rw [hexL, dif_neg h]
theorem HBox.cell {w0 w : World} {n k u : Nat} (h : HBox w0 n k u w) (i : Nat) (hi : i < 65) : ∃ x, w.cell? ⟨w0.heap.size, i, none⟩ = some x := by
  obtain ⟨cs, tail, hb, hcs, _⟩ := h.box
  exact ⟨cs[i]'(by omega), by rw [hb.cell, Array.getElem?_eq_getElem (by omega)]⟩
theorem HBox.frozen {w0 w : World} {n k u : Nat} (h : HBox w0 n k u w) (i : Nat) : w.frozen? ⟨w0.heap.size, i, none⟩ = false := by
  obtain ⟨cs, tail, hb, _⟩ := h.box
  exact hb.frozen i
theorem HBox.start {cs : Array Value} (w0 : World) (n : Nat) (hz : cs.size = 65) : HBox w0 n 0 n (w0.alloc (.cells cs 129)) :=
  ⟨⟨cs, [], Blk.new w0 _ _, hz, rfl, by simp, fun j c h => by simp at h⟩, (Below.refl _ _).alloc (Nat.le_refl _) _⟩
theorem tail_next {cs : Array Value} {tail : List UInt8} {k : Nat} {d : UInt8} (hk : k ≤ 3) (hcs : cs.size = 65) (htl : tail.length = k) (h : ∀ (j : Nat) (c : UInt8), tail[j]? = some c → cs[65 - k + j]? = some (.int .u8 c.toNat)) :
    ∀ (j : Nat) (c : UInt8), (d :: tail)[j]? = some c → (cs.setIfInBounds (64 - k) (.int .u8 d.toNat))[65 - (k + 1) + j]? = some (.int .u8 c.toNat) := by
  intro j c hj
  cases j with
  | zero =>
    obtain rfl : d = c := by simpa using hj
    have e : 65 - (k + 1) + 0 = 64 - k := by omega
    rw [e, Array.getElem?_setIfInBounds_self_of_lt (by omega)]
  | succ i =>
    have hi := h i c (by simpa using hj)
    have e : 65 - (k + 1) + (i + 1) = 65 - k + i := by omega
    rw [e, Array.getElem?_setIfInBounds_ne (by omega)]
    exact hi
theorem HBox.next {w0 w : World} {n k u i : Nat} (h : HBox w0 n k u w) (hk : k ≤ 3) (hi : i = 64 - k) (hu : 16 ≤ u) : HBox w0 n (k + 1) (u / 16) (w.setCell ⟨w0.heap.size, i, none⟩ (.int .u8 (hexd (u % 16)).toNat)) := by
  subst hi
  obtain ⟨cs, tail, hb, hcs, htl, hx, htc⟩ := h.box
  exact ⟨⟨_, hexd (u % 16) :: tail, hb.set_ _ _, by simpa using hcs, by simp [htl], by rw [hx, hexL_ge (by omega), List.append_assoc]; rfl, tail_next hk hcs htl htc⟩, h.be.setCell (Nat.le_refl _) _⟩
theorem HBox.fin {w0 w : World} {n k u i : Nat} (h : HBox w0 n k u w) (hk : k ≤ 3) (hi : i = 64 - k) (hu : u < 16) : (convert 82 9 (.slice (some ⟨w0.heap.size, i, none⟩) (k + 1) (k + 1))).run Tryd.prog (w.setCell ⟨w0.heap.size, i, none⟩ (.int .u8 (hexd u).toNat)) = .ok (.string (mkB (hexL n))) (w.setCell ⟨w0.heap.size, i, none⟩ (.int .u8 (hexd u).toNat)) ∧ Below w0.heap.size w0 (w.setCell ⟨w0.heap.size, i, none⟩ (.int .u8 (hexd u).toNat)) := by
  subst hi
  refine ⟨?_, h.be.setCell (Nat.le_refl _) _⟩
  obtain ⟨cs, tail, hb, hcs, htl, hx, htc⟩ := h.box
  have e : hexL n = hexd u :: tail := by rw [hx, hexL_lt hu]; rfl
  have hl : (hexd u :: tail).length = k + 1 := by simp [htl]
  rw [e, ← hl]
  unfold mkB
  refine run_convert_bytes_back _ 82 9 5 ⟨w0.heap.size, 64 - k, none⟩ _ (hexd u :: tail) Tryd.underlying82 Tryd.underlying5 Tryd.underlying9 (fun j hj => ?_)
  have := tail_next (d := hexd u) hk hcs htl htc j _ (List.getElem?_eq_getElem hj)
  have e2 : ((⟨w0.heap.size, 64 - k, none⟩ : Addr).add j) = ⟨w0.heap.size, 65 - (k + 1) + j, none⟩ := by unfold Addr.add; split <;> simp_all <;> omega
  rw [e2, (hb.set_ (64 - k) (.int .u8 (hexd u).toNat)).cell, this]
def figsB : ByteArray := ⟨#[48, 49, 50, 51, 52, 53, 54, 55, 56, 57, 97, 98, 99, 100, 101, 102, 103, 104, 105, 106, 107, 108, 109, 110, 111, 112, 113, 114, 115, 116, 117, 118, 119, 120, 121, 122]⟩
theorem figs_at : ∀ r, (h : r < 16) → figsB[r]'(by have : figsB.size = 36 := rfl; omega) = hexd r := by decide +kernel
theorem wraps_u64' (n : Int) (h₀ : 0 ≤ n) (h₁ : n < 2 ^ 20) : IntKind.u64.wrap n = n := by rw [IntKind.wrap_u64]; omega
theorem and15 (x : Nat) (hx : x < 65536) : bits .and .u64 (x : Int) 15 = ((x % 16 : Nat) : Int) := by
  have h := bits_mask .u64 20 (by decide) wraps_u64' 4 (by decide) (x : Int) (by omega) (by omega)
  have e : ((2 : Int) ^ 4 - 1) = 15 := by decide
  rw [e] at h
  rw [h]
  omega
set_option maxHeartbeats 4000000 in
theorem format_calls (n : Nat) (hn : n < 65536) {w : World} (hF : FW w) :
    Calls Tryd.prog 91 #[.slice none 0 0, .int .u64 n, .int .i64 16, .bool false, .bool false] w fun e w' => e = .returned (.tuple #[.slice none 0 0, .string (mkB (hexL n))]) ∧ Below w.heap.size w w' := by
  have HF := Lib.hid hF
  clear hF
  go_enter Tryd.func91, Tryd.ntmps91
  go_wp2_with fail
  refine (pow2_calls _).mono ?_
  rintro e w' ⟨rfl, rfl⟩
  go_wp2_with fail
  refine (tz_calls (HF.out.keep ((Below.refl _ _).alloc (Nat.le_refl _) _))).mono ?_
  rintro e w' ⟨rfl, rfl⟩
  go_wp2_with fail
  go_loopg [13, 1] 4 (fun m v13 v1 w' => Hid (∃ (k u : Nat), k ≤ 3 ∧ v13 = .int .i64 (65 - (k : Int)) ∧ v1 = .int .u64 u ∧ m = 4 - k ∧ u < 16 ^ (4 - k) ∧ HBox w n k u w'))
  case atStart => exact ⟨0, n, by omega, rfl, rfl, rfl, hn, HBox.start w n (by rfl)⟩
  case round =>
    obtain ⟨k, u, hk, rfl, rfl, hm, hu, hB⟩ := hrel.out
    clear hrel
    have HM := Lib.hid hm
    have HB := Lib.hid hB
    clear hm hB
    have hu2 : u < 65536 := Nat.lt_of_lt_of_le hu (Nat.le_trans (Nat.pow_le_pow_right (j := 4) (by decide : 0 < 16) (by omega)) (by decide))
    by_cases h16 : 16 ≤ u
    · have HN := Lib.hid (fun (i : Nat) (hi : i = 64 - k) => HB.out.next hk hi h16)
      have hr := and15 u hu2
      have HU := Lib.hid (show u / 16 < 16 ^ (4 - (k + 1)) from by
        rw [Nat.div_lt_iff_lt_mul (by decide), ← Nat.pow_succ]
        exact Nat.lt_of_lt_of_le hu (Nat.pow_le_pow_right (by decide) (by omega)))
      have hrl : u % 16 < 16 := Nat.mod_lt _ (by decide)
      obtain ⟨r, hre⟩ : ∃ r, r = u % 16 := ⟨_, rfl⟩
      rw [← hre] at hr hrl HN
      have HG := Lib.hid (figs_at r hrl)
      clear hre
      have hk3 : k ≠ 3 := by
        rintro rfl
        have : u < 16 := by simpa using hu
        omega
      have h16' : (16 : Int) ≤ (u : Int) := by omega
      clear hu
      obtain rfl | rfl | rfl : k = 0 ∨ k = 1 ∨ k = 2 := by omega
      · obtain ⟨x0, hc⟩ := HB.out.cell 64 (by decide)
        have hf := HB.out.frozen 64
        go_wp2_with fail
        rw [show (({ data := #[48, 49, 50, 51, 52, 53, 54, 55, 56, 57, 97, 98, 99, 100, 101, 102, 103, 104, 105, 106, 107, 108, 109, 110, 111, 112, 113, 114, 115, 116, 117, 118, 119, 120, 121, 122] } : ByteArray)[r]'(by have : figsB.size = 36 := rfl; show r < figsB.size; omega)) = hexd r from HG.out]
        have HN2 := Lib.hid (HN.out 64 rfl)
        go_roundg (3)
        case measure => have := HM.out; omega
        case rel => exact ⟨0 + 1, u / 16, by omega, rfl, by first | rfl | go_num, rfl, HU.out, HN2.out⟩
      · obtain ⟨x0, hc⟩ := HB.out.cell 63 (by decide)
        have hf := HB.out.frozen 63
        go_wp2_with fail
        rw [show (({ data := #[48, 49, 50, 51, 52, 53, 54, 55, 56, 57, 97, 98, 99, 100, 101, 102, 103, 104, 105, 106, 107, 108, 109, 110, 111, 112, 113, 114, 115, 116, 117, 118, 119, 120, 121, 122] } : ByteArray)[r]'(by have : figsB.size = 36 := rfl; show r < figsB.size; omega)) = hexd r from HG.out]
        have HN2 := Lib.hid (HN.out 63 rfl)
        go_roundg (2)
        case measure => have := HM.out; omega
        case rel => exact ⟨1 + 1, u / 16, by omega, rfl, by first | rfl | go_num, rfl, HU.out, HN2.out⟩
      · obtain ⟨x0, hc⟩ := HB.out.cell 62 (by decide)
        have hf := HB.out.frozen 62
        go_wp2_with fail
        rw [show (({ data := #[48, 49, 50, 51, 52, 53, 54, 55, 56, 57, 97, 98, 99, 100, 101, 102, 103, 104, 105, 106, 107, 108, 109, 110, 111, 112, 113, 114, 115, 116, 117, 118, 119, 120, 121, 122] } : ByteArray)[r]'(by have : figsB.size = 36 := rfl; show r < figsB.size; omega)) = hexd r from HG.out]
        have HN2 := Lib.hid (HN.out 62 rfl)
        go_roundg (1)
        case measure => have := HM.out; omega
        case rel => exact ⟨2 + 1, u / 16, by omega, rfl, by first | rfl | go_num, rfl, HU.out, HN2.out⟩
    · have HN := Lib.hid (fun (i : Nat) (hi : i = 64 - k) => HB.out.fin hk hi (by omega))
      have hul : u < 16 := by omega
      have h16' : ¬ (16 : Int) ≤ (u : Int) := by omega
      have HG := Lib.hid (figs_at u (by omega))
      clear hu h16
      obtain rfl | rfl | rfl | rfl : k = 0 ∨ k = 1 ∨ k = 2 ∨ k = 3 := by omega
      · obtain ⟨x0, hc⟩ := HB.out.cell 64 (by decide)
        have hf := HB.out.frozen 64
        have hE := (HN.out 64 rfl).1
        have HE := Lib.hid (HN.out 64 rfl).2
        rw [← show (({ data := #[48, 49, 50, 51, 52, 53, 54, 55, 56, 57, 97, 98, 99, 100, 101, 102, 103, 104, 105, 106, 107, 108, 109, 110, 111, 112, 113, 114, 115, 116, 117, 118, 119, 120, 121, 122] } : ByteArray)[u]'(by have : figsB.size = 36 := rfl; show u < figsB.size; omega)) = hexd u from HG.out] at hE HE
        go_wp2_with fail
        go_ret2
        exact ⟨rfl, HE.out⟩
      · obtain ⟨x0, hc⟩ := HB.out.cell 63 (by decide)
        have hf := HB.out.frozen 63
        have hE := (HN.out 63 rfl).1
        have HE := Lib.hid (HN.out 63 rfl).2
        rw [← show (({ data := #[48, 49, 50, 51, 52, 53, 54, 55, 56, 57, 97, 98, 99, 100, 101, 102, 103, 104, 105, 106, 107, 108, 109, 110, 111, 112, 113, 114, 115, 116, 117, 118, 119, 120, 121, 122] } : ByteArray)[u]'(by have : figsB.size = 36 := rfl; show u < figsB.size; omega)) = hexd u from HG.out] at hE HE
        go_wp2_with fail
        go_ret2
        exact ⟨rfl, HE.out⟩
      · obtain ⟨x0, hc⟩ := HB.out.cell 62 (by decide)
        have hf := HB.out.frozen 62
        have hE := (HN.out 62 rfl).1
        have HE := Lib.hid (HN.out 62 rfl).2
        rw [← show (({ data := #[48, 49, 50, 51, 52, 53, 54, 55, 56, 57, 97, 98, 99, 100, 101, 102, 103, 104, 105, 106, 107, 108, 109, 110, 111, 112, 113, 114, 115, 116, 117, 118, 119, 120, 121, 122] } : ByteArray)[u]'(by have : figsB.size = 36 := rfl; show u < figsB.size; omega)) = hexd u from HG.out] at hE HE
        go_wp2_with fail
        go_ret2
        exact ⟨rfl, HE.out⟩
      · obtain ⟨x0, hc⟩ := HB.out.cell 61 (by decide)
        have hf := HB.out.frozen 61
        have hE := (HN.out 61 rfl).1
        have HE := Lib.hid (HN.out 61 rfl).2
        rw [← show (({ data := #[48, 49, 50, 51, 52, 53, 54, 55, 56, 57, 97, 98, 99, 100, 101, 102, 103, 104, 105, 106, 107, 108, 109, 110, 111, 112, 113, 114, 115, 116, 117, 118, 119, 120, 121, 122] } : ByteArray)[u]'(by have : figsB.size = 36 := rfl; show u < figsB.size; omega)) = hexd u from HG.out] at hE HE
        go_wp2_with fail
        go_ret2
        exact ⟨rfl, HE.out⟩
theorem formatin_calls (n : Nat) (hn : n < 65536) {w : World} (hF : FW w) :
    Calls Tryd.prog 95 #[.int .u64 n, .int .i64 16] w fun e w' => e = .returned (.string (mkB (hexL n))) ∧ Below w.heap.size w w' := by
  have HC := Lib.hid (format_calls n hn hF)
  clear hF
  go_enter Tryd.func95, Tryd.ntmps95
  go_wp2_with fail
  refine HC.out.mono ?_
  rintro e w' ⟨rfl, hb⟩
  have HB := Lib.hid hb
  clear hb
  go_wp2_with fail
  go_ret
  exact ⟨rfl, HB.out⟩
/-- strconv.FormatUint(n, 16), n of 16 bits. -/
theorem formatU_calls (n : Nat) (hn : n < 65536) {w : World} (hF : FW w) :
    Calls Tryd.prog 86 #[.int .u64 n, .int .i64 16] w fun e w' => e = .returned (.string (mkB (hexL n))) ∧ Below w.heap.size w w' := by
  have HC := Lib.hid (formatin_calls n hn hF)
  clear hF
  go_enter Tryd.func86, Tryd.ntmps86
  go_wp2_with fail
  refine HC.out.mono ?_
  rintro e w' ⟨rfl, hb⟩
  have HB := Lib.hid hb
  clear hb
  go_wp2_with fail
  go_ret
  exact ⟨rfl, HB.out⟩
end Go.Proofs.YtgljkgkmbfhgiaaDoor
set_option maxRecDepth 100000
namespace Go.Proofs.YtgljkgkmbfhgiaaDoor
open Go.RowKit Four Six

def strC6 (l : List UInt8) : List Value := [.string (mkB l)]
theorem info_strS : (Tryd.prog.info? 9).map (fun i => (i.zero, i.size, i.bytes)) = some (some (.string ⟨#[]⟩), 1, 16) := by kernel_rfl
structure JRel (w0 : World) (l : List Nat) (k : Nat) (v : Value) (w : World) : Prop where
  own : OwnR w w0.heap.size 9 1 strC6 v ((l.take k).map hexL)
  be : Below w0.heap.size w0 w
theorem blk_rowS {w : World} {g : Nat} {t : TypeId} {x : List UInt8} (h : Blk w g t #[.string (mkB x)]) : RowAt strC6 1 w (some ⟨g, 0, none⟩) [x] := by
  intro i y hx
  have hi : i < 1 := (List.getElem?_eq_some_iff.1 hx).1
  obtain rfl : i = 0 := by omega
  obtain rfl : x = y := by simpa using hx
  refine ⟨g, 0, rfl, fun j u hu => ?_⟩
  have hj : j < 1 := (List.getElem?_eq_some_iff.1 hu).1
  obtain rfl : j = 0 := by omega
  obtain rfl : Value.string (mkB x) = u := by simpa [strC6] using hu
  rw [h.cell]
  rfl
theorem JRel.next {w0 w1 w2 w3 : World} {l : List Nat} {k n : Nat} {v v' : Value} (h : JRel w0 l k v w1) (hn : l[k]? = some n) (hb : Below w1.heap.size w1 w2) (ho : OwnR w3 w0.heap.size 9 1 strC6 v' ((l.take k).map hexL ++ [hexL n])) (hg : w2.grownBy w3 v.ownBlock) : JRel w0 l (k + 1) v' w3 := by
  have hown : ∀ g, v.ownBlock = some g → w0.heap.size ≤ g := fun g e => (row_blk h.own e).1
  refine ⟨?_, (belowOn h.be h.be.size hb).grown hg (Nat.le_trans h.be.size hb.size) (fun g e => hown g e)⟩
  rw [List.take_add_one, hn]
  simpa using ho
theorem rowN_below' {w w' : World} {A : Option Addr} {l : List Nat} (h : RowAt numC 1 w A l) (hb : Below w.heap.size w w') : RowAt numC 1 w' A l := by
  intro i x hx
  obtain ⟨b, off, rfl, hc⟩ := h i x hx
  refine ⟨b, off, rfl, fun j u hu => ?_⟩
  have := hc j u hu
  exact (hb.cell (p := ⟨b, off + i * 1 + j, none⟩) (World.block_lt_of_cell? w _ this)).trans this
theorem joined_small {l : List Nat} (h8 : l.length ≤ 8) (h : ∀ n ∈ l, n < 65536) : (joined l).length ≤ 40 := by
  have := (joined_len l h).1
  omega
set_option maxHeartbeats 4000000 in
theorem joined_calls (A : Option Addr) (c : Nat) (l : List Nat) (h8 : l.length ≤ 8) (hl : ∀ n ∈ l, n < 65536) {w : World} (hF : FW w) (hc : l.length ≤ c) (hr : RowAt numC 1 w A l) :
    Calls Tryd.prog 79 #[.slice A l.length c] w fun e w' => e = .returned (.string (mkB (joined l))) ∧ Below w.heap.size w w' := by
  have HR0 := Lib.hid (show JRel w l 0 (.slice none 0 0) w from ⟨OwnR.nil _ _ _ _ _, Below.refl _ _⟩)
  have HF := Lib.hid hF
  have HR := Lib.hid hr
  have HL := Lib.hid hl
  clear hF hr hl
  by_cases h0 : l = []
  · subst h0
    clear HR0
    go_enter Tryd.func79, Tryd.ntmps79
    go_wp2_with fail
    go_loopg [8, 3] 0 (fun m v8 v3 w' => v8 = .int .i64 0 ∧ v3 = .slice none 0 0 ∧ w' = w)
    case atStart => exact ⟨rfl, rfl, rfl⟩
    case round =>
      obtain ⟨rfl, rfl, rfl⟩ := hrel
      go_wp2_with fail
      refine (Tryd.strings_Join_none none 0 _ _).mono ?_
      rintro e w' ⟨rfl, rfl⟩
      go_wp2_with fail
      go_ret
      exact ⟨rfl, Below.refl _ _⟩
  · obtain ⟨n0, hn0⟩ : ∃ n, l[0]? = some n := ⟨l[0]'(List.length_pos_iff.2 h0), List.getElem?_eq_getElem _⟩
    obtain ⟨b, off, rfl, _⟩ := HR.out 0 n0 hn0
    have hp : 0 < l.length := List.length_pos_iff.2 h0
    clear hn0 h0
    go_enter Tryd.func79, Tryd.ntmps79
    go_wp2_with fail
    go_loopg [8, 3] (l.length) (fun m v8 v3 w' => Hid (∃ (k : Nat), k ≤ l.length ∧ v8 = .int .i64 k ∧ m = l.length - k ∧ JRel w l k v3 w'))
    case atStart => exact ⟨0, by omega, rfl, by omega, HR0.out⟩
    case round =>
      obtain ⟨k, hk, rfl, hm, hT⟩ := hrel.out
      clear hrel HR0
      have HM := Lib.hid hm
      have HT := Lib.hid hT
      clear hm hT
      by_cases hlt : k < l.length
      · obtain ⟨n, hn⟩ : ∃ n, l[k]? = some n := ⟨l[k]'hlt, List.getElem?_eq_getElem _⟩
        have hn6 := HL.out n (List.mem_of_getElem? hn)
        have hcell : wr.cell? ⟨b, off + k, none⟩ = some (.int .u16 n) := by
          obtain ⟨b', off', e, hc⟩ := rowN_below' HR.out HT.out.be k n hn
          cases e
          simpa using hc 0 _ rfl
        have HI := Lib.hid (formatU_calls n hn6 (HF.out.keep HT.out.be))
        have HN := Lib.hid hn
        have hw64 : IntKind.u64.wrap (n : Int) = (n : Int) := by rw [IntKind.wrap_u64]; omega
        clear hn
        go_wp2_with fail
        refine HI.out.mono ?_
        rintro e w2 ⟨rfl, hb2⟩
        have HB2 := Lib.hid hb2
        clear hb2 HI
        go_wp2_with (at_builtin; refine stop_here ?_)
        refine stop_go ?_
        refine wpList_appendR strC6 1 (fun _ => rfl) (by omega) (fun x u hu => by simp [strC6] at hu; subst hu; rfl) rfl (.tmp 12) (.tmp 16) _ 9 _ 16 rfl Tryd.underlying27 info_strS rfl (by omega) w.heap.size u3 _ (some ⟨w2.heap.size, 0, none⟩) 1 [hexL n] rfl rfl (HT.out.own.below (HB2.out.alloc HB2.out.size _)) (blk_rowS (Blk.new w2 _ _)) (by simp; omega) (by have := HT.out.be.size; have := HB2.out.size; simp; omega) ?_
        intro v' w5 ho hg _
        have HNX := Lib.hid (HT.out.next HN.out (HB2.out.alloc HB2.out.size _) ho hg)
        clear ho hg
        go_wp2_with fail
        go_roundg (l.length - (k + 1))
        case measure => have := HM.out; omega
        case rel => exact ⟨k + 1, by omega, by first | rfl | go_num, rfl, HNX.out⟩
      · obtain rfl : k = l.length := by omega
        have ho := HT.out.own
        rw [List.take_length] at ho
        obtain ⟨A, c', hv, hrow, hc', hcm, hA⟩ := ho.row (fun _ => rfl)
        obtain ⟨b', off', rfl, h0⟩ := hrow 0 _ (List.getElem?_eq_getElem (by simpa using hp))
        obtain ⟨_, _, rfl⟩ := hA b' off' rfl
        have e : ((l.map hexL).map mkB).map (·.data.toList) = l.map hexL := by
          rw [List.map_map]
          conv => rhs; rw [← List.map_id (l.map hexL)]
          exact List.map_congr_left fun l _ => mkB_data l
        have HJ := Lib.hid (fun (W : World) (hW : W = wr) => Tryd.strings_Join b' 0 c' ((l.map hexL).map mkB) ⟨#[58]⟩ W (fun j x hx => by
          rw [List.getElem?_map] at hx
          obtain ⟨y, hy, rfl⟩ := Option.map_eq_some_iff.1 hx
          obtain ⟨b'', off'', e, hcell⟩ := hrow j y hy
          cases e
          have := hcell 0 _ rfl
          rw [hW]
          simpa using this) (by rw [hW]; exact World.block_lt_of_cell? _ _ (h0 0 _ rfl)) (by simp; omega) (by simpa using hc') (by
            rw [e]
            have := joined_small h8 HL.out
            unfold joined at this
            have e2 : (ByteArray.mk #[58]).data.toList = [58] := rfl
            rw [e2]
            omega))
        rw [e] at HJ
        have el : ((l.map hexL).map mkB).length = l.length := by simp
        rw [el] at HJ
        have hv2 : u3 = .slice (some ⟨b', 0, none⟩) l.length c' := by rw [hv]; simp
        have HB := Lib.hid HT.out.be
        clear h0 hrow hA ho hv e el HT
        subst hv2
        go_wp2_with fail
        refine (HJ.out _ rfl).mono ?_
        rintro e w2 ⟨rfl, hb2⟩
        have HB2 := Lib.hid (belowOn HB.out HB.out.size hb2)
        clear hb2
        go_wp2_with fail
        go_ret
        exact ⟨rfl, HB2.out⟩
end Go.Proofs.YtgljkgkmbfhgiaaDoor
set_option maxRecDepth 100000
namespace Go.Proofs.YtgljkgkmbfhgiaaDoor
open Go.RowKit Four Six

def cellsA (a : List Nat) : List Value := a.map fun (n : Nat) => .int .u16 n
def bestN (a : List Nat) (i : Nat) (b : Nat × Nat) : Nat × Nat := if b.2 < Six.runN (a.drop i) then (i, Six.runN (a.drop i)) else b
def midN (i k : Nat) (b : Nat × Nat) : Nat × Nat := if b.2 < k - i then (i, k - i) else b
theorem run_at (a : List Nat) (i k : Nat) (hik : i ≤ k) (hz : ∀ j, i ≤ j → j < k → a[j]? = some 0) (he : a[k]? ≠ some 0) : Six.runN (a.drop i) = k - i := by
  induction hd : k - i generalizing i with
  | zero =>
    have : i = k := by omega
    subst this
    unfold Six.runN
    cases h : a.drop i with
    | nil => rfl
    | cons x l =>
      have : a[i]? = some x := by rw [← List.head?_drop, h]; rfl
      rw [this] at he
      have hx : (x == 0) = false := by simp; exact fun e => he (by rw [e])
      simp [List.takeWhile, hx]
  | succ d ih =>
    have h0 := hz i (Nat.le_refl _) (by omega)
    have hdr : a.drop i = 0 :: a.drop (i + 1) := by
      obtain ⟨hi, hv⟩ := List.getElem?_eq_some_iff.1 h0
      rw [List.drop_eq_getElem_cons hi, hv]
    have := ih (i + 1) (by omega) (fun j h1 h2 => hz j (by omega) h2) (by omega)
    unfold Six.runN at this ⊢
    rw [hdr]
    simp [List.takeWhile, this]
theorem mid_best (a : List Nat) (i k : Nat) (b : Nat × Nat) (hik : i ≤ k) (hz : ∀ j, i ≤ j → j < k → a[j]? = some 0) (he : a[k]? ≠ some 0) : midN i k b = bestN a i b := by
  unfold midN bestN
  rw [run_at a i k hik hz he]
theorem mid_next (i k : Nat) (b : Nat × Nat) (hik : i ≤ k) : midN i (k + 1) b = if (midN i k b).2 < k + 1 - i then (i, k + 1 - i) else midN i k b := by
  unfold midN
  by_cases h1 : b.2 < k - i
  · rw [if_pos (by omega), if_pos h1, if_pos (by simp only; omega)]
  · rw [if_neg h1]
theorem mid_le (i k : Nat) (b : Nat × Nat) (hi : i ≤ 8) (hk : k ≤ 8) (h1 : b.1 ≤ 8) (h2 : b.2 ≤ 8) : (midN i k b).1 ≤ 8 ∧ (midN i k b).2 ≤ 8 := by
  unfold midN
  split
  · exact ⟨hi, by simp only; omega⟩
  · exact ⟨h1, h2⟩
set_option maxHeartbeats 8000000 in
theorem longest6_calls (a : List Nat) (h8 : a.length = 8) (w : World) :
    Calls Tryd.prog 78 #[.agg (cellsA a).toArray] w fun e w' => e = .returned (.tuple #[.int .i64 (longest a).1, .int .i64 (longest a).2]) ∧ Below w.heap.size w w' := by
  have HL := Lib.hid (show longest a = longN a (8 - 0) 0 (0, 1) from rfl)
  obtain ⟨W, hW⟩ : ∃ W, W = w.alloc (.cells (cellsA a).toArray 24) := ⟨_, rfl⟩
  have HB := Lib.hid (show Below w.heap.size w W by rw [hW]; exact (Below.refl _ _).alloc (Nat.le_refl _) _)
  have HC := Lib.hid (show ∀ (k n : Nat), a[k]? = some n → W.cell? ⟨w.heap.size, k, none⟩ = some (.int .u16 n) by
    intro k n hn
    rw [hW, (Blk.new w _ _).cell]
    simp [cellsA, hn])
  obtain ⟨x, y, hx⟩ : ∃ x y, (x, y) = longest a := ⟨_, _, rfl⟩
  rw [← hx] at HL ⊢
  clear hx
  match a, h8 with
  | [x0, x1, x2, x3, x4, x5, x6, x7], h8 =>
    have HW2 := Lib.hid (show w.alloc (.cells #[.int .u16 x0, .int .u16 x1, .int .u16 x2, .int .u16 x3, .int .u16 x4, .int .u16 x5, .int .u16 x6, .int .u16 x7] 24) = W from hW.symm)
    clear hW
    simp only [cellsA, List.map_cons, List.map_nil]
    go_enter Tryd.func78, Tryd.ntmps78
    go_wp2_with fail
    go_step3
    go_wp2_with fail
    rw [HW2.out]
    have HX := Lib.hid h8
    generalize [x0, x1, x2, x3, x4, x5, x6, x7] = a at HL HC HX
    clear HW2 h8
    go_step3
    go_wp2_with fail
    go_loopg [6, 4, 5] 8 (fun m v6 v4 v5 w' => W = w' ∧ Hid (∃ (i : Nat) (b : Nat × Nat), i ≤ 8 ∧ m = 8 - i ∧ v6 = .int .i64 i ∧ v4 = .int .i64 b.1 ∧ v5 = .int .i64 b.2 ∧ b.1 ≤ 8 ∧ b.2 ≤ 8 ∧ (x, y) = longN a (8 - i) i b))
    case atStart => exact ⟨rfl, 0, (0, 1), by omega, rfl, rfl, rfl, rfl, by omega, by omega, HL.out⟩
    case round =>
      obtain ⟨rfl, hrel⟩ := hrel
      obtain ⟨i, b, hi, hm, rfl, rfl, rfl, hb1, hb2, hL⟩ := hrel.out
      clear hrel HL
      have HM := Lib.hid hm
      have HLL := Lib.hid hL
      clear hm hL
      by_cases h8 : i < 8
      · have hi7 : decide ((i : Int) < 8) = true := by simp; omega
        go_wp2_with fail
        go_loopg [7, 4, 5] (8 - i) (fun m2 v7 v4 v5 w' => W = w' ∧ Hid (∃ (k : Nat) (b' : Nat × Nat), i ≤ k ∧ k ≤ 8 ∧ m2 = 8 - k ∧ v7 = .int .i64 k ∧ v4 = .int .i64 b'.1 ∧ v5 = .int .i64 b'.2 ∧ b' = midN i k b ∧ (∀ j, i ≤ j → j < k → a[j]? = some 0)))
        case atStart => exact ⟨rfl, i, b, by omega, by omega, rfl, rfl, rfl, rfl, by unfold midN; rw [if_neg (by omega)], fun j h1 h2 => by omega⟩
        case round =>
          obtain ⟨rfl, hrel⟩ := hrel
          obtain ⟨k, b', hik, hk, hm2, rfl, rfl, rfl, hb', hz⟩ := hrel.out
          have hbb := mid_le i k b (by omega) hk hb1 hb2
          rw [← hb'] at hbb
          obtain ⟨c1, c2⟩ := hbb
          have HM2 := Lib.hid hm2
          have HZ := Lib.hid hz
          have HB' := Lib.hid hb'
          have hstep : a[k]? ≠ some 0 → (x, y) = longN a (8 - (i + 1)) (i + 1) b' := fun h => by
            have := HLL.out
            rw [show 8 - i = (8 - (i + 1)) + 1 by omega, longN] at this
            rw [HB'.out, mid_best a i k b hik HZ.out h]
            exact this
          have HS := Lib.hid hstep
          clear hrel hm2 hz hb' hstep
          by_cases hk8 : k < 8
          · obtain ⟨n, hn⟩ : ∃ n, a[k]? = some n := ⟨a[k]'(by rw [HX.out]; exact hk8), List.getElem?_eq_getElem _⟩
            have hcell := HC.out k n hn
            have HN := Lib.hid hn
            clear hn
            by_cases h0 : n = 0
            · subst h0
              have hz2 : ∀ j, i ≤ j → j < k + 1 → a[j]? = some 0 := fun j h1 h2 => by
                by_cases e : j = k
                · rw [e]; exact HN.out
                · exact HZ.out j h1 (by omega)
              have HZ2 := Lib.hid hz2
              clear hz2
              by_cases hgt : b'.2 < k + 1 - i
              · have HB2 := Lib.hid (show ((i, k + 1 - i) : Nat × Nat) = midN i (k + 1) b by rw [mid_next i k b hik, ← HB'.out, if_pos hgt])
                have hgt' : (b'.2 : Int) < (k : Int) - (i : Int) + 1 := by omega
                clear hgt
                go_wp2_with fail
                go_roundg (8 - (k + 1))
                case measure => have := HM2.out; omega
                case rel => exact ⟨rfl, k + 1, (i, k + 1 - i), by omega, by omega, rfl, by first | rfl | go_num, rfl, by first | rfl | (congr 1; simp only; omega), HB2.out, HZ2.out⟩
              · have HB2 := Lib.hid (show b' = midN i (k + 1) b by rw [mid_next i k b hik, ← HB'.out, if_neg hgt])
                have hgt' : ¬ (b'.2 : Int) < (k : Int) - (i : Int) + 1 := by omega
                clear hgt
                go_wp2_with fail
                go_roundg (8 - (k + 1))
                case measure => have := HM2.out; omega
                case rel => exact ⟨rfl, k + 1, b', by omega, by omega, rfl, by first | rfl | go_num, rfl, rfl, HB2.out, HZ2.out⟩
            · have HS2 := Lib.hid (HS.out (by rw [HN.out]; exact fun e => h0 (Option.some.inj e)))
              have h0' : ((n : Int) == 0) = false := by simp; omega
              go_wp2_with fail
              go_roundg (8 - (i + 1))
              case measure => have := HM.out; omega
              case rel => exact ⟨rfl, i + 1, b', by omega, rfl, by first | rfl | go_num, rfl, rfl, c1, c2, HS2.out⟩
          · have HS2 := Lib.hid (HS.out (by rw [List.getElem?_eq_none (by rw [HX.out]; omega)]; exact fun e => by cases e))
            go_wp2_with fail
            go_roundg (8 - (i + 1))
            case measure => have := HM.out; omega
            case rel => exact ⟨rfl, i + 1, b', by omega, rfl, by first | rfl | go_num, rfl, rfl, c1, c2, HS2.out⟩
      · obtain rfl : i = 8 := by omega
        have HE := Lib.hid (show (x, y) = b from HLL.out)
        go_wp2_with fail
        rw [Exit.noGoto_ret]
        go_ret2
        have he := HE.out
        subst he
        exact ⟨rfl, HB.out⟩
end Go.Proofs.YtgljkgkmbfhgiaaDoor
set_option maxRecDepth 100000
namespace Go.Proofs.YtgljkgkmbfhgiaaDoor
open Go.RowKit Four Six

theorem size_u16 (W : World) : (sizeOf 23).run Tryd.prog W = .ok 1 W := by
  obtain ⟨i, hi, hz⟩ := Option.map_eq_some_iff.1 info_u16
  simp only [Prod.mk.injEq] at hz
  simp [sizeOf, typeInfo, hi, hz.2.1]
/-- A box of eight, cut ahead and behind. -/
theorem cut_head (g p : Nat) (hp : p ≤ 8) : ∃ c, p ≤ c ∧ ∀ W, (Instr.sliceAt 24 (.pointer (some ⟨g, 0, none⟩)) none (some (.int .i64 (p : Int))) none).run Tryd.prog W = .ok (.slice (some ⟨g, 0, none⟩) p c) W := by
  refine ⟨8, hp, fun W => ?_⟩
  have hal : Tryd.prog.arrayLen 24 = 8 := by kernel_rfl
  have hel : Tryd.prog.elem 24 = 23 := by kernel_rfl
  rw [run_sliceAt_array_h W 24 ⟨g, 0, none⟩ (by rw [hal, hel]; exact Tryd.underlying24) .i64 (p : Int) (by omega) (by rw [hal]; omega), hal, hel, size_u16]
  simp only [Result.andThen_ok, slicedAt]
  simp [Addr.add]
theorem cut_tail (g p : Nat) (hp : p ≤ 8) : ∃ o c, 8 - p ≤ c ∧ (p < 8 → o = p) ∧ ∀ W, (Instr.sliceAt 24 (.pointer (some ⟨g, 0, none⟩)) (some (.int .i64 (p : Int))) none none).run Tryd.prog W = .ok (.slice (some ⟨g, o, none⟩) (8 - p) c) W := by
  refine ⟨if p = 8 then 0 else p, 8 - p, Nat.le_refl _, fun h => if_neg (by omega), fun W => ?_⟩
  have hal : Tryd.prog.arrayLen 24 = 8 := by kernel_rfl
  have hel : Tryd.prog.elem 24 = 23 := by kernel_rfl
  rw [run_sliceAt_array_l W 24 ⟨g, 0, none⟩ (by rw [hal, hel]; exact Tryd.underlying24) .i64 (p : Int) (by omega) (by rw [hal]; omega), hal, hel, size_u16]
  simp only [Result.andThen_ok, slicedAt, Int.toNat_natCast]
  by_cases h0 : p = 8
  · subst h0; simp
  · rw [if_neg h0, if_neg (by omega)]
    unfold Addr.add
    simp
    omega
theorem eight_of {a : List Nat} (h8 : a.length = 8) : ∃ x0 x1 x2 x3 x4 x5 x6 x7, a = [x0, x1, x2, x3, x4, x5, x6, x7] := by
  match a, h8 with
  | [x0, x1, x2, x3, x4, x5, x6, x7], _ => exact ⟨x0, x1, x2, x3, x4, x5, x6, x7, rfl⟩
theorem cells_eight (x0 x1 x2 x3 x4 x5 x6 x7 : Nat) : (cellsA [x0, x1, x2, x3, x4, x5, x6, x7]).toArray = #[.int .u16 x0, .int .u16 x1, .int .u16 x2, .int .u16 x3, .int .u16 x4, .int .u16 x5, .int .u16 x6, .int .u16 x7] := by
  simp only [cellsA, List.map_cons, List.map_nil]
theorem row_part {w : World} {g o : Nat} {a l : List Nat} {i : Nat} (h : Blk w g 24 (cellsA a).toArray) (ho : l ≠ [] → o = i) (hl : ∀ (j n : Nat), l[j]? = some n → a[i + j]? = some n) : RowAt numC 1 w (some ⟨g, o, none⟩) l := by
  intro j n hn
  have hne : l ≠ [] := by rintro rfl; simp at hn
  refine ⟨g, o, rfl, fun k u hu => ?_⟩
  have hk : k < 1 := (List.getElem?_eq_some_iff.1 hu).1
  obtain rfl : k = 0 := by omega
  obtain rfl : Value.int .u16 (n : Int) = u := by simpa [numC] using hu
  rw [h.cell, ho hne]
  have := hl j n hn
  simp [cellsA, this]
set_option maxHeartbeats 8000000 in
theorem text_calls (a : List Nat) (h8 : a.length = 8) (ha : ∀ n ∈ a, n < 65536) {w : World} (hF : FW w) :
    Calls Tryd.prog 66 #[.agg (cellsA a).toArray] w fun e w' => e = .returned (.string (mkB (text6 a))) ∧ Below w.heap.size w w' := by
  obtain ⟨W, hW⟩ : ∃ W, W = w.alloc (.cells (cellsA a).toArray 24) := ⟨_, rfl⟩
  have hb0 : Below w.heap.size w W := by rw [hW]; exact (Below.refl _ _).alloc (Nat.le_refl _) _
  have HB := Lib.hid hb0
  have HK := Lib.hid (show Blk W w.heap.size 24 (cellsA a).toArray by rw [hW]; exact Blk.new w _ _)
  have HLC := Lib.hid (longest6_calls a h8 W)
  have HF := Lib.hid (hF.keep hb0)
  have hlok := longest_ok a
  have HT := Lib.hid (show text6 a = if (longest a).2 < 2 then joined a else joined (a.take (longest a).1) ++ [58, 58] ++ joined (a.drop ((longest a).1 + (longest a).2)) by unfold text6; with_reducible rfl)
  have HA := Lib.hid ha
  clear hF hb0 ha
  obtain ⟨T, hT⟩ : ∃ T, T = text6 a := ⟨_, rfl⟩
  rw [← hT] at HT ⊢
  clear hT
  generalize longest a = b at HLC hlok HT
  obtain ⟨p, m⟩ := b
  simp only at HLC hlok HT
  have HX := Lib.hid h8
  have HLOK := Lib.hid hlok
  clear hlok
  obtain ⟨x0, x1, x2, x3, x4, x5, x6, x7, hxs⟩ := eight_of h8
  have hcc : (cellsA a).toArray = #[.int .u16 x0, .int .u16 x1, .int .u16 x2, .int .u16 x3, .int .u16 x4, .int .u16 x5, .int .u16 x6, .int .u16 x7] := by rw [hxs]; exact cells_eight _ _ _ _ _ _ _ _
  have hagg : Value.agg (cellsA a).toArray = .agg #[.int .u16 x0, .int .u16 x1, .int .u16 x2, .int .u16 x3, .int .u16 x4, .int .u16 x5, .int .u16 x6, .int .u16 x7] := by rw [hcc]
  have HW2 := Lib.hid (show w.alloc (.cells #[.int .u16 x0, .int .u16 x1, .int .u16 x2, .int .u16 x3, .int .u16 x4, .int .u16 x5, .int .u16 x6, .int .u16 x7] 24) = W by rw [hW, hcc])
  rw [hagg] at HLC
  have HAG := Lib.hid hagg
  have HXS := Lib.hid hcc
  clear hW h8 hxs hagg hcc
  rw [HAG.out]
  go_enter Tryd.func66, Tryd.ntmps66
  go_wp2_with fail
  rw [HW2.out]
  refine HLC.out.mono ?_
  rintro e w1 ⟨rfl, hb1⟩
  have HB1 := Lib.hid (belowOn HB.out HB.out.size hb1)
  have HK1 := Lib.hid (HK.out.keep hb1)
  have HF1 := Lib.hid (HF.out.keep hb1)
  clear hb1 HLC HK HF HW2
  by_cases hm : m < 2
  · have hm' : (m : Int) < 2 := by omega
    have HR := Lib.hid (show T = joined a by rw [HT.out, if_pos hm])
    have HJ := Lib.hid (joined_calls (some ⟨w.heap.size, 0, none⟩) 8 a (by rw [HX.out]; omega) HA.out HF1.out (by rw [HX.out]; omega) (row_part HK1.out (i := 0) (fun _ => rfl) (fun j n hn => by rw [Nat.zero_add]; exact hn)))
    rw [HX.out] at HJ
    go_wp2_with fail
    refine HJ.out.mono ?_
    rintro e w2 ⟨rfl, hb2⟩
    have HB2 := Lib.hid (belowOn HB1.out HB1.out.size hb2)
    clear hb2
    go_wp2_with fail
    go_ret
    rw [HR.out]
    exact ⟨rfl, HB2.out⟩
  · have hm' : ¬ (m : Int) < 2 := by omega
    have HR := Lib.hid (show T = joined (a.take p) ++ [58, 58] ++ joined (a.drop (p + m)) by rw [HT.out, if_neg hm])
    obtain ⟨_, hpm⟩ := HLOK.out hm
    rw [HX.out] at hpm
    obtain ⟨c1, hc1, hs1⟩ := cut_head w.heap.size p (by omega)
    obtain ⟨o2, c2, hc2, ho2, hs2⟩ := cut_tail w.heap.size (p + m) hpm
    have l1 : (a.take p).length = p := by rw [List.length_take, HX.out]; omega
    have l2 : (a.drop (p + m)).length = 8 - (p + m) := by rw [List.length_drop, HX.out]
    have HJ1 := Lib.hid (fun (W' : World) (hb : Below w1.heap.size w1 W') => joined_calls (some ⟨w.heap.size, 0, none⟩) c1 (a.take p) (by omega) (fun n hn => HA.out n (List.mem_of_mem_take hn)) (HF1.out.keep hb) (by omega) (row_part (HK1.out.keep hb) (i := 0) (fun _ => rfl) (fun j n hn => by
      rw [Nat.zero_add]
      have hj := (List.getElem?_eq_some_iff.1 hn).1
      rw [List.getElem?_take_of_lt (by omega)] at hn
      exact hn)))
    have HJ2 := Lib.hid (fun (W' : World) (hb : Below w1.heap.size w1 W') => joined_calls (some ⟨w.heap.size, o2, none⟩) c2 (a.drop (p + m)) (by omega) (fun n hn => HA.out n (List.mem_of_mem_drop hn)) (HF1.out.keep hb) (by omega) (row_part (HK1.out.keep hb) (i := p + m) (fun hne => ho2 (by have := List.length_pos_iff.2 hne; omega)) (fun j n hn => by
      rw [List.getElem?_drop] at hn
      exact hn)))
    rw [l1] at HJ1
    rw [l2] at HJ2
    have z1 := joined_small (l := a.take p) (by omega) (fun n hn => HA.out n (List.mem_of_mem_take hn))
    have z2 := joined_small (l := a.drop (p + m)) (by omega) (fun n hn => HA.out n (List.mem_of_mem_drop hn))
    obtain ⟨U1, hU1⟩ : ∃ U, U = mkB (joined (a.take p)) := ⟨_, rfl⟩
    obtain ⟨U2, hU2⟩ : ∃ U, U = mkB (joined (a.drop (p + m))) := ⟨_, rfl⟩
    have q1 : U1.size ≤ 40 := by rw [hU1, mkB_size]; omega
    have q2 : U2.size ≤ 40 := by rw [hU2, mkB_size]; omega
    have HE := Lib.hid (show (U1 ++ (⟨#[58, 58]⟩ : ByteArray)) ++ U2 = mkB T by
      rw [HR.out, hU1, hU2]
      apply ByteArray.ext
      simp [mkB, ByteArray.data_append])
    rw [← hU1] at HJ1
    rw [← hU2] at HJ2
    obtain ⟨S1, hS1⟩ : ∃ S, S = Value.slice (some ⟨w.heap.size, 0, none⟩) p c1 := ⟨_, rfl⟩
    obtain ⟨S2, hS2⟩ : ∃ S, S = Value.slice (some ⟨w.heap.size, o2, none⟩) (8 - (p + m)) c2 := ⟨_, rfl⟩
    rw [← hS1] at hs1 HJ1
    rw [← hS2] at hs2 HJ2
    have e64 : (((p + m : Nat) : Int)) = IntKind.i64.wrap ((p : Int) + (m : Int)) := by rw [IntKind.wrap_i64]; omega
    rw [e64] at hs2
    have qs : (U1 ++ (⟨#[58, 58]⟩ : ByteArray)).size ≤ 42 := by
      have : (⟨#[58, 58]⟩ : ByteArray).size = 2 := rfl
      rw [ByteArray.size_append]
      omega
    have a1 : ∀ w, (Op.stringOp .add U1 ⟨#[58, 58]⟩).run Tryd.prog w = .ok (.string (U1 ++ (⟨#[58, 58]⟩ : ByteArray))) w := fun w => run_string_add_sum w _ _ (by rw [show (⟨#[58, 58]⟩ : ByteArray).size = 2 from rfl]; omega)
    obtain ⟨V, hV⟩ : ∃ V, V = U1 ++ (⟨#[58, 58]⟩ : ByteArray) := ⟨_, rfl⟩
    rw [← hV] at a1 HE qs
    have a2 : ∀ w, (Op.stringOp .add V U2).run Tryd.prog w = .ok (.string (V ++ U2)) w := fun w => run_string_add_sum w _ _ (by omega)
    have HB0 := Lib.hid (show Below w1.heap.size w1 w1.drew from (Below.refl _ _).drew)
    have c0 := HK1.out.cell 0
    rw [HXS.out] at c0
    have c0 : w1.cell? ⟨w.heap.size, 0, none⟩ = some (.int .u16 x0) := c0
    have HC0 := Lib.hid c0
    clear hU1 hU2 hS1 hS2 hV l1 l2 e64 ho2 hc1 hc2 z1 z2 q1 q2 qs HA HLOK HT HR HF1 HK1 HX HAG HXS hpm hm
    go_wp2_with fail
    go_region_held3 (fun w' => w'.cell? ⟨w.heap.size, 0, none⟩ = some (.int .u16 x0))
      (first | exact c0 | exact c01 | exact c02 | go_keep)
      (first
        | (go_at_call_of 79 S1; refine (HJ1.out _ HB0.out).mono ?_; rintro e w3 ⟨rfl, hb⟩; have HC1 := Lib.hid (belowOn HB0.out HB0.out.size hb); have c01 := (HC1.out.cell (p := ⟨w.heap.size, 0, none⟩) (World.block_lt_of_cell? _ _ HC0.out)).trans HC0.out; clear hb)
        | (go_at_call_of 79 S2; refine (HJ2.out _ HC1.out).mono ?_; rintro e w4 ⟨rfl, hb⟩; have HD := Lib.hid (belowOn HC1.out HC1.out.size hb); have c02 := (HD.out.cell (p := ⟨w.heap.size, 0, none⟩) (World.block_lt_of_cell? _ _ HC0.out)).trans HC0.out; clear hb))
    go_wp2_with fail
    go_ret
    rw [HE.out]
    exact ⟨rfl, belowOn HB1.out HB1.out.size HD.out⟩
end Go.Proofs.YtgljkgkmbfhgiaaDoor
