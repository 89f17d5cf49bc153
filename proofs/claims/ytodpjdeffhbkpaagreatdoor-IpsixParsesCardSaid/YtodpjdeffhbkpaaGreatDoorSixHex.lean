/- A text by base 16 as a number, and one by base 10: strconv.ParseUint. -/
import Derived.Test.YtodpjdeffhbkpaaGreatDoorSixFormat
import Derived.Lib.Strings
import Derived.Lib.ConvBytes
import Derived.Lib.ParseIntBMem
import Derived.Laws.Closers25
import Derived.Laws.Closers25b
import Derived.Shelf.Pu.ErrVarParseUint
set_option linter.unusedVariables false
set_option linter.unusedSimpArgs false
set_option maxRecDepth 100000
namespace Go.Proofs.YtodpjdeffhbkpaaGreatDoor
open Go.RowKit Four Six

/-! ### Base 16 -/
theorem forall_u8 {P : UInt8 → Prop} (h : ∀ n, n < 256 → P (UInt8.ofNat n)) (c : UInt8) : P c := by
  have := h c.toNat c.toNat_lt
  rwa [UInt8.ofNat_toNat] at this
theorem fig_low : ∀ c : UInt8, isHex c = true → (48 ≤ c.toNat ∧ c.toNat ≤ 57 ∧ figure c = c.toNat - 48) ∨ (¬ (48 ≤ c.toNat ∧ c.toNat ≤ 57) ∧ c.toNat ≠ 95 ∧ 97 ≤ (c ||| 32).toNat ∧ (c ||| 32).toNat ≤ 102 ∧ figure c = (c ||| 32).toNat - 87) := forall_u8 (by decide +kernel)
theorem low_bits (c : UInt8) : bits .or .u8 (c.toNat : Int) 32 = (((c ||| 32).toNat : Nat) : Int) := by
  revert c
  exact forall_u8 (by decide +kernel)
theorem low_calls (c : UInt8) (w : World) : Calls Tryz.prog 80 #[.int .u8 (c.toNat : Int)] w fun e w' => e = .returned (.int .u8 (((c ||| 32).toNat : Nat) : Int)) ∧ w' = w := by
  refine (Tryz.internal_strconv_lower (c.toNat : Int) w).mono ?_
  rintro e w' ⟨rfl, rfl⟩
  exact ⟨by rw [low_bits], rfl⟩
theorem hexV_cons (c : UInt8) (l : List UInt8) (n : Nat) : hexV (c :: l) n = hexV l (n * 16 + figure c) := rfl

set_option maxHeartbeats 32000000 in
theorem hexin_calls (t : ByteArray) (h1 : 1 ≤ t.size) (h4 : t.size ≤ 4) (hx : t.data.toList.all isHex = true) (w : World) :
    Calls Tryz.prog 60 #[.string t, .int .i64 16, .int .i64 16] w fun e w' => e = .returned (.tuple #[.int .u64 (hexV t.data.toList 0), .nilIface]) ∧ Below w.heap.size w w' := by
  have hemp : t.toList.isEmpty = false := by
    rw [← decide_eq_emptyBytes]
    exact decide_eq_false (fun h => by rw [h] at h1; exact absurd h1 (by decide))
  have hcv := Lib.run_convert_string_bytes (P := Tryz.prog) w 9 42 5 t (u := .string) Tryz.underlying9 Tryz.underlying42 Tryz.underlying5
  have hB : ∀ j, j < t.size → (Lib.bytesWorld w 5 t).cell? ⟨w.heap.size, j, none⟩ = some (.int .u8 (t.data.toList.getD j 0).toNat) := fun j hj => Lib.bytesWorld_cell w 5 t j hj
  have HE := Lib.hid (bytesWorld_below w 5 t)
  obtain ⟨W1, hW1⟩ : ∃ W1, W1 = Lib.bytesWorld w 5 t := ⟨_, rfl⟩
  rw [← hW1] at hcv hB HE
  clear hW1
  obtain ⟨bs, hL⟩ : ∃ bs, bs = t.data.toList := ⟨_, rfl⟩
  have hLn : bs.length = t.size := by rw [hL, Lib.size_eq]
  rw [← hL] at hB hx ⊢
  clear hL
  have HX := Lib.hid hx
  clear hx
  have hmv : IntKind.u64.wrap (IntKind.u64.wrap 65536 - 1) = 65535 := by
    rw [IntKind.wrap_u64, IntKind.wrap_u64]
    decide
  go_enter Tryz.func60, Tryz.ntmps60
  go_wp2
  go_loop [12, 13, 101] (fun vu vn vi => ∃ (k acc : Nat) (a : Int), vu = .bool false ∧ vn = .int .u64 a ∧ vi = .int .i64 k ∧ k ≤ t.size ∧ Hid (a = (acc : Int) ∧ acc < 16 ^ k ∧ hexV bs 0 = hexV (bs.drop k) acc))
    (fun _ _ vi => t.size - (intOf vi).toNat)
  case atStart => exact ⟨0, 0, 0, rfl, rfl, rfl, by omega, rfl, by decide, rfl⟩
  case round =>
    obtain ⟨k, acc, a, rfl, rfl, rfl, hk, hh⟩ := hrel
    obtain ⟨ha, hacc, hdec⟩ := hh.out
    clear hh
    by_cases hkn : k < t.size
    · have hc := hB k hkn
      have hdrop : bs.drop k = bs[k]'(by omega) :: bs.drop (k + 1) := List.drop_eq_getElem_cons (by omega)
      have hget : bs.getD k 0 = bs[k]'(by omega) := by simp [List.getD, List.getElem?_eq_getElem (show k < bs.length by omega)]
      have hhex : isHex (bs[k]'(by omega)) = true := List.all_eq_true.1 HX.out _ (List.getElem_mem _)
      rw [hdrop, hexV_cons] at hdec
      rw [hget] at hc
      generalize bs[k]'(by omega) = c at hc hdec hhex
      have hc256 : c.toNat < 256 := c.toNat_lt
      have hp : acc < 4096 := Nat.lt_of_lt_of_le hacc (Nat.le_trans (Nat.pow_le_pow_right (j := 3) (by decide : 0 < 16) (by omega)) (by decide))
      have hfig : figure c < 16 := by simpa [isHex] using hhex
      have HN := Lib.hid (show a * 16 + (figure c : Int) = ((acc * 16 + figure c : Nat) : Int) ∧ acc * 16 + figure c < 16 ^ (k + 1) ∧ hexV bs 0 = hexV (bs.drop (k + 1)) (acc * 16 + figure c) from ⟨by omega, by rw [Nat.pow_succ]; omega, hdec⟩)
      have a0 : 0 ≤ a := by omega
      have a1 : a < 4096 := by omega
      have hlow := fig_low c hhex
      clear hB hdrop hget hacc hdec ha hp hhex
      rcases hlow with ⟨hd0, hd1, hd2⟩ | ⟨hd, h95, hd3, hd4, hd2⟩
      · rw [hd2] at HN hfig
        have e1 : ((c.toNat - 48 : Nat) : Int) = (c.toNat : Int) - 48 := by omega
        rw [e1] at HN
        clear hd2 e1
        go_wp2
        refine ⟨⟨k + 1, _, _, rfl, rfl, rfl, by omega, HN⟩, by simp [intOf]; omega⟩
      · rw [hd2] at HN hfig
        have hlc := low_calls c
        have h95' : ¬ ((c.toNat : Int) = 95) := by omega
        generalize hx : (c ||| 32).toNat = x at *
        have e1 : ((x - 87 : Nat) : Int) = (x : Int) - 97 + 10 := by omega
        rw [e1] at HN
        clear hd2 e1 hx
        go_wp2_with fail
        all_goals (
          refine (hlc _).mono ?_
          rintro e w' ⟨rfl, rfl⟩
          go_wp2_with fail
          refine (hlc _).mono ?_
          rintro e w' ⟨rfl, rfl⟩
          go_wp2_with fail
          refine (hlc _).mono ?_
          rintro e w' ⟨rfl, rfl⟩
          go_wp2_with fail
          refine ⟨⟨k + 1, _, _, rfl, rfl, rfl, by omega, HN⟩, by simp [intOf]; omega⟩)
    · have hkk : k = t.size := by omega
      subst hkk
      rw [List.drop_eq_nil_of_le (by omega)] at hdec
      subst ha
      clear hacc
      rw [hdec]
      go_wp2
      go_ret2
      exact ⟨rfl, HE.out⟩
/-- strconv.ParseUint(s, 16, 16), s one to four figures by base 16. -/
theorem hexU_calls (t : ByteArray) (h1 : 1 ≤ t.size) (h4 : t.size ≤ 4) (hx : t.data.toList.all isHex = true) (w : World) :
    Calls Tryz.prog 43 #[.string t, .int .i64 16, .int .i64 16] w fun e w' => e = .returned (.tuple #[.int .u64 (hexV t.data.toList 0), .nilIface]) ∧ Below w.heap.size w w' := by
  have HC := Lib.hid (hexin_calls t h1 h4 hx w)
  clear h1 h4 hx
  go_enter Tryz.func43, Tryz.ntmps43
  go_wp2_with fail
  refine HC.out.mono ?_
  rintro e w' ⟨rfl, hb⟩
  have HB := Lib.hid hb
  clear hb
  go_wp2_with fail
  go_ret2
  exact ⟨rfl, HB.out⟩

/-! ### Base 10, eight bits -/
theorem decU_calls (s : ByteArray) {w : World} (hF : FW w) (hs : s.size ≤ 1000000) :
    Calls Tryz.prog 43 #[.string s, .int .i64 10, .int .i64 8] w fun e w' => ((∃ u, Lib.parseUintB 8 s.data.toList = .ok u ∧ e = .returned (.tuple #[.int .u64 u, .nilIface])) ∨ ((∀ u, Lib.parseUintB 8 s.data.toList ≠ .ok u) ∧ ∃ m t x, e = .returned (.tuple #[.int .u64 m, .iface t x]))) ∧ Below w.heap.size w w' := by
  cases h : Lib.parseUintB 8 s.data.toList
  · rename_i n
    refine (Tryz.strconv_ParseUint_10_at8_ok s (by omega) n h w).mono ?_
    rintro e w' ⟨rfl, hw⟩
    refine ⟨.inl ⟨n, rfl, rfl⟩, ?_⟩
    rcases hw with rfl | rfl
    · exact Below.refl _ _
    · exact bytesWorld_below w _ s
  · obtain ⟨te, pe, hv⟩ := hF.syn
    refine (Any.strconv_ParseUint_10_at8_syntax Tryz.laysPu14 s (by omega) h _ w hv (.inr ⟨te, pe, rfl⟩)).mono ?_
    rintro e w' ⟨N, rfl, _, _, hb⟩
    exact ⟨.inr ⟨fun n e => (by cases e), _, _, _, rfl⟩, hb⟩
  · obtain ⟨te, pe, hv⟩ := hF.rng
    refine (Tryz.strconv_ParseUint_10_at8_range s (by omega) h _ w hv (.inr ⟨te, pe, rfl⟩)).mono ?_
    rintro e w' ⟨N, rfl, _, _, hb⟩
    exact ⟨.inr ⟨fun n e => (by cases e), _, _, _, rfl⟩, hb⟩
end Go.Proofs.YtodpjdeffhbkpaaGreatDoor
