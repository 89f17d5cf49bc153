/- What the listed variables give: strconv.Itoa, strconv.Atoi; key.Of, key.Back. -/
import Derived.Test.YtkeegffhfmhgfaaDoorPureCut
import Derived.Test.YtkeegffhfmhgfaaDoorBase
import Derived.Lib.Hide
set_option linter.unusedVariables false
set_option linter.unusedSimpArgs false
namespace Go.Proofs.YtkeegffhfmhgfaaDoor
open Go.RowKit Go.Proofs.YtkeegffhfmhgfaaDoorW.PrintWords Go.Proofs.YtkeegffhfmhgfaaDoor.Plain Go.Proofs.YtkeegffhfmhgfaaDoor.PKey

/-- What the package variables hold that strconv asks. -/
structure KW (w : World) : Prop where
  tab : Lib.TabIs Tryd.prog w "internal/strconv.uint64pow10" .u64 Lib.pow10Tab
  syn : ∃ te pe, w.cell? ⟨1, 0, none⟩ = some (.iface te pe)
  rng : ∃ te pe, w.cell? ⟨2, 0, none⟩ = some (.iface te pe)
theorem kw_tab : Tryd.prog.globalNamed "internal/strconv.uint64pow10" = some 3 := by kernel_rfl
theorem KW.keep {w w' : World} (h : KW w) (hb : Below w.heap.size w w') : KW w' := by
  refine ⟨?_, ?_, ?_⟩
  · have := h.tab
    unfold Lib.TabIs World.var? at this ⊢
    rw [kw_tab] at this ⊢
    simp only [Option.bind_some] at this ⊢
    rw [hb.block]
    · exact this
    · rcases Nat.lt_or_ge 3 w.heap.size with h1 | h1
      · exact h1
      · rw [Array.getElem?_eq_none h1] at this; cases this
  · obtain ⟨te, pe, e⟩ := h.syn
    exact ⟨te, pe, (hb.cell (p := ⟨1, 0, none⟩) (World.block_lt_of_cell? w _ e)).trans e⟩
  · obtain ⟨te, pe, e⟩ := h.rng
    exact ⟨te, pe, (hb.cell (p := ⟨2, 0, none⟩) (World.block_lt_of_cell? w _ e)).trans e⟩

theorem below_grow (w : World) (k : Nat) (os : Array Obj) : Below w.heap.size w (Go.Sort.grow (w.drewN k) os) :=
  ⟨rfl, rfl, rfl, by simp [Go.Sort.grow], fun i hi => by simp only [Go.Sort.grow]; exact Array.getElem?_append_left hi⟩
def decB (n : Nat) : ByteArray := ⟨(Lib.decDigits n).toArray⟩
theorem itoa_calls (n : Nat) (w : World) (hk : KW w) (hn : n ≤ 9223372036854775807) :
    Calls Tryd.prog 17 #[.int .i64 n] w fun e w' => e = .returned (.string (decB n)) ∧ Below w.heap.size w w' := by
  refine (Tryd.strconv_Itoa n (by omega) (by omega) w hk.tab).mono ?_
  rintro e w' ⟨rfl, k, os, rfl⟩
  exact ⟨by unfold decB; rw [Lib.itoa_nonneg], below_grow _ k os⟩
/-- How strconv.Atoi ends. -/
theorem atoi_calls (s : ByteArray) (w : World) (hk : KW w) (hs : s.size ≤ 140737488351232) :
    Calls Tryd.prog 22 #[.string s] w fun e w' => ((∃ n, Lib.atoiAll s.data.toList = .ok n ∧ e = .returned (.tuple #[.int .i64 n, .nilIface])) ∨ ((∀ n, Lib.atoiAll s.data.toList ≠ .ok n) ∧ ∃ m t x, e = .returned (.tuple #[.int .i64 m, .iface t x]))) ∧ Below w.heap.size w w' := by
  cases h : Lib.atoiAll s.data.toList
  · rename_i n
    refine (Tryd.strconv_Atoi_ok s (by omega) n h w).mono ?_
    rintro e w' ⟨rfl, hw⟩
    refine ⟨.inl ⟨n, rfl, rfl⟩, ?_⟩
    rcases hw with rfl | ⟨t, rfl⟩
    · exact Below.refl _ _
    · exact ⟨rfl, rfl, rfl, by rw [Lib.bytesWorld_size]; omega, fun i hi => Lib.bytesWorld_at_old w _ t i hi⟩
  · obtain ⟨te, pe, hv⟩ := hk.syn
    refine (Any.strconv_Atoi_syntax Tryd.laysC172 s (by omega) h _ w hv (.inr ⟨te, pe, rfl⟩)).mono ?_
    rintro e w' ⟨N, rfl, _, _, hb⟩
    exact ⟨.inr ⟨fun n e => (by cases e), _, _, _, rfl⟩, hb⟩
  · obtain ⟨te, pe, hv⟩ := hk.rng
    refine (Tryd.strconv_Atoi_range s (by omega) h _ w hv (.inr ⟨te, pe, rfl⟩)).mono ?_
    rintro e w' ⟨N, rfl, _, _, hb⟩
    exact ⟨.inr ⟨fun n e => (by cases e), _, _, _, rfl⟩, hb⟩

/-! ### key.Of -/
def ofB (base : ByteArray) (has : Bool) (s : ByteArray) : ByteArray := if has = true then ((decB base.size ++ (⟨#[58]⟩ : ByteArray)) ++ base) ++ s else (⟨#[45]⟩ : ByteArray) ++ s
theorem decDigits_le (n : Nat) : 1 ≤ (Lib.decDigits n).length ∧ (Lib.decDigits n).length ≤ n + 1 := by
  induction n using Nat.strongRecOn with
  | _ n ih =>
    unfold Lib.decDigits
    split
    · simp
    · have := ih (n / 10) (by omega)
      simp
      omega
theorem decB_size (n : Nat) : (decB n).size ≤ n + 1 := (decDigits_le n).2
theorem size_append (a b : ByteArray) : (a ++ b).size = a.size + b.size := by rw [← len_data, append_data, List.length_append, len_data, len_data]
theorem of_calls (base s : ByteArray) (has : Bool) (w : World) (hk : KW w) (h1 : base.size ≤ 1000000) (h2 : s.size ≤ 140737488351232) :
    Calls Tryd.prog 9 #[.string base, .bool has, .string s] w fun e w' => e = .returned (.string (ofB base has s)) ∧ Below w.heap.size w w' := by
  have hd := decB_size base.size
  have z1 : (⟨#[58]⟩ : ByteArray).size = 1 := rfl
  have z2 := size_append (decB base.size) ⟨#[58]⟩
  have z3 := size_append (decB base.size ++ (⟨#[58]⟩ : ByteArray)) base
  have b1 : (decB base.size).size + 1 ≤ 9223372036854775807 := by omega
  have b2 : (decB base.size ++ (⟨#[58]⟩ : ByteArray)).size + base.size ≤ 9223372036854775807 := by omega
  have b3 : ((decB base.size ++ (⟨#[58]⟩ : ByteArray)) ++ base).size + s.size ≤ 9223372036854775807 := by omega
  have HK := Lib.hid hk
  clear hk z1 z2 z3
  cases has with
  | false =>
    go_enter Tryd.func9, Tryd.ntmps9
    go_wp2_with fail
    go_ret
    exact ⟨rfl, Below.refl _ _⟩
  | true =>
    go_enter Tryd.func9, Tryd.ntmps9
    go_wp2_with fail
    refine (itoa_calls _ _ HK.out (by omega)).mono ?_
    rintro e w1 ⟨rfl, hb⟩
    go_wp2_with fail
    go_ret
    exact ⟨rfl, hb⟩
end Go.Proofs.YtkeegffhfmhgfaaDoor
