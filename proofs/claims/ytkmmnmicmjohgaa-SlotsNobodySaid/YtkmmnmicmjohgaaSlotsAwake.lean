/- The law's awake: one slot, of two generations. -/
import Derived.Test.YtkmmnmicmjohgaaSlotsNew
import Derived.Deep.RegionHeld3
set_option linter.unusedVariables false
set_option linter.unusedSimpArgs false
namespace Go.Proofs.Ytkmmnmicmjohgaa
open Go.RowKit Slots

namespace Slots
def aw0 : St := newSt 1 2
def aw1 : St := { sl := [⟨1, 1, 1⟩], last := 2, head := 1, left := 0, live := 1 }
def aw2 : St := { sl := [⟨1, 2, 1⟩], last := 2, head := 1, left := 0, live := 1 }
def aw4 : St := { sl := [⟨2, 0, 1⟩], last := 2, head := 0, left := 1, live := 0 }
def aw5 : St := { sl := [⟨2, 1, 1⟩], last := 2, head := 1, left := 0, live := 1 }
def aw6 : St := { sl := [⟨0, 0, 1⟩], last := 2, head := 1, left := 0, live := 0 }
theorem aw_take0 : aw0.take = (aw1, some (0, 1)) := by rfl
theorem aw_add : aw1.turn (0, 1) 1 = (aw2, some 2) := by rfl
theorem aw_drop1 : aw2.turn (0, 1) (-1) = (aw1, some 1) := by rfl
theorem aw_drop2 : aw1.turn (0, 1) (-1) = (aw4, some 0) := by rfl
theorem aw_count : aw4.turn (0, 1) 0 = (aw4, none) := by rfl
theorem aw_take4 : aw4.take = (aw5, some (0, 2)) := by rfl
theorem aw_drop5 : aw5.turn (0, 2) (-1) = (aw6, some 0) := by rfl
theorem aw_take6 : aw6.take = (aw6, none) := by rfl
theorem aw_st1 : st aw1 (0, 1) = none := by rfl
theorem aw_st2 : st aw2 (0, 1) = none := by rfl
theorem aw_st4 : st aw4 (0, 1) = some 7 := by rfl
theorem aw_st5 : st aw5 (0, 2) = none := by rfl
theorem fine_one (c : Cell) (last head left live : Int) (h1 : 0 ≤ c.count ∧ c.count ≤ 999999) (h2 : 0 ≤ c.gen ∧ c.gen ≤ 999999) (h3 : 0 ≤ left ∧ left ≤ 999999) (h4 : 0 ≤ live ∧ live ≤ 999999) (h5 : left ≠ 0 → head = 0) : Fine { sl := [c], last := last, head := head, left := left, live := live } := by
  refine ⟨fun i d hd => ?_, h3, h4, fun h => ⟨0, h5 h, by simp⟩⟩
  cases i with
  | zero =>
    simp only [List.getElem?_cons_zero, Option.some.injEq] at hd
    subst hd
    exact ⟨h1, h2⟩
  | succ i => simp at hd
theorem aw_fine0 : Fine aw0 := fine_one ⟨1, 0, 1⟩ 2 0 1 0 (by decide) (by decide) (by decide) (by decide) (by decide)
theorem aw_fine1 : Fine aw1 := fine_one _ _ _ _ _ (by decide) (by decide) (by decide) (by decide) (by decide)
theorem aw_fine2 : Fine aw2 := fine_one _ _ _ _ _ (by decide) (by decide) (by decide) (by decide) (by decide)
theorem aw_fine4 : Fine aw4 := fine_one _ _ _ _ _ (by decide) (by decide) (by decide) (by decide) (by decide)
theorem aw_fine5 : Fine aw5 := fine_one _ _ _ _ _ (by decide) (by decide) (by decide) (by decide) (by decide)
theorem aw_fine6 : Fine aw6 := fine_one _ _ _ _ _ (by decide) (by decide) (by decide) (by decide) (by decide)
end Slots

/-- What stands in awake: the slots; the handle's box. -/
structure AwSt (w0 w : World) (b g ga : Nat) (s : St) : Prop where
  at_ : At w b g s
  box : Blk w ga 24 #[.int .i64 0, .int .u64 1]
  be : Below w0.heap.size w0 w
  hb : w0.heap.size ≤ b
  hg : w0.heap.size ≤ g
theorem AwSt.did {w0 w w' : World} {b g ga : Nat} {s s' : St} (h : AwSt w0 w b g ga s) (hA : At w' b g s') (hF : Fr w w' (fun i => i = b ∨ i = g)) : AwSt w0 w' b g ga s' := by
  have hb := h.hb
  have hg := h.hg
  refine ⟨hA, h.box.fr hF ?_, h.be.trans (hF.below h.be.size (by rintro i (rfl | rfl) <;> omega)), h.hb, h.hg⟩
  rintro (e | e)
  · exact absurd e (h.box.ne_ h.at_.blk (by decide))
  · exact absurd e (h.box.ne_ h.at_.row (by decide))
theorem AwSt.alloc {w0 w : World} {b g ga : Nat} {s : St} (h : AwSt w0 w b g ga s) (o : Obj) : AwSt w0 (w.alloc o) b g ga s := ⟨⟨h.at_.ne, h.at_.blk.alloc _, h.at_.row.alloc _⟩, h.box.alloc _, h.be.alloc h.be.size _, h.hb, h.hg⟩
theorem AwSt.c {w0 w : World} {b g ga : Nat} {s : St} (h : AwSt w0 w b g ga s) : w.cell? ⟨ga, 0, none⟩ = some (.int .i64 0) ∧ w.cell? ⟨ga, 1, none⟩ = some (.int .u64 1) := ⟨(h.box.cell 0).trans rfl, (h.box.cell 1).trans rfl⟩
/-- An error stays over an act. -/
theorem chain_fr {w w' : World} {b g : Nat} {s : St} {l : List ByteArray} {v : Value} {c : Int} (h : Chain w l v c) (hA : At w b g s) (hF : Fr w w' (fun i => i = b ∨ i = g)) : Chain w' l v c :=
  h.mono fun k t u hk => hF.at_ hk (by
    rintro (e | e)
    · subst e; exact absurd rfl (Blk.ne_ (show Blk w k 55 #[.string t, u] from hk) hA.blk (by decide))
    · subst e; exact absurd rfl (Blk.ne_ (show Blk w k 55 #[.string t, u] from hk) hA.row (by decide)))

set_option maxRecDepth 100000 in
set_option maxHeartbeats 8000000 in
theorem awake_calls (w : World) : Calls Try.prog 4 #[] w fun e w' => e = .returned (.bool true) ∧ Below w.heap.size w w' := by
  go_enter Try.func4, Try.ntmps4
  go_wp2_with fail
  refine (slots_new_ok 1 2 _ (by decide) (by decide) (by decide)).mono ?_
  rintro e w1 ⟨⟨b, g, rfl, hA1, hb, hg⟩, hb1⟩
  have HA1 := Lib.hid hA1
  have HB1 := Lib.hid hb1
  clear hA1 hb1
  go_wp2_with fail
  -- Take: a
  have hcc := slots_take (s := aw0) HA1.out aw_fine0
  rw [aw_take0] at hcc
  refine hcc.mono ?_
  clear hcc
  rintro e w2 ⟨⟨v2, rfl, rfl⟩, hA2, hF2⟩
  have hA2' : AwSt w (w2.alloc (.cells #[.int .i64 0, .int .u64 1] 24)) b g w2.heap.size aw1 :=
    ⟨⟨hA2.ne, hA2.blk.alloc _, hA2.row.alloc _⟩, Blk.new _ _ _, (HB1.out.trans (hF2.below HB1.out.size (by rintro i (rfl | rfl) <;> omega))).alloc (by have := HB1.out.size; have := hF2.size; omega) _, hb, hg⟩
  obtain ⟨c0, c1⟩ := hA2'.c
  have H2 := Lib.hid hA2'
  clear HA1 HB1 hA2 hF2 hA2'
  go_wp2_with fail
  generalize w2.alloc (.cells #[.int .i64 0, .int .u64 1] 24) = w3 at H2 c0 c1 ⊢
  generalize w2.heap.size = ga at H2 c0 c1 ⊢
  -- Add
  have hcc := slots_add H2.out.at_ aw_fine1 (0, 1)
  rw [aw_add, aw_st1] at hcc
  refine hcc.mono ?_
  clear hcc
  rintro e w4 ⟨⟨v4, rfl, rfl⟩, hA4, hF4⟩
  have H4 := Lib.hid (H2.out.did hA4 hF4)
  clear hA4 hF4 H2 c0 c1
  obtain ⟨c0, c1⟩ := H4.out.c
  go_wp2_with fail
  -- Drop
  have hcc := slots_drop H4.out.at_ aw_fine2 (0, 1)
  rw [aw_drop1, aw_st2] at hcc
  refine hcc.mono ?_
  clear hcc
  rintro e w5 ⟨⟨v5, rfl, rfl⟩, hA5, hF5⟩
  have H5 := Lib.hid (H4.out.did hA5 hF5)
  clear hA5 hF5 H4 c0 c1
  obtain ⟨c0, c1⟩ := H5.out.c
  go_wp2_with fail
  -- Drop
  have hcc := slots_drop H5.out.at_ aw_fine1 (0, 1)
  rw [aw_drop2, aw_st1] at hcc
  refine hcc.mono ?_
  clear hcc
  rintro e w6 ⟨⟨v6, rfl, rfl⟩, hA6, hF6⟩
  have H6 := Lib.hid (H5.out.did hA6 hF6)
  clear hA6 hF6 H5 c0 c1
  obtain ⟨c0, c1⟩ := H6.out.c
  go_wp2_with fail
  -- Count
  have hcc := slots_count H6.out.at_ aw_fine4 (0, 1)
  rw [aw_count, aw_st4] at hcc
  refine hcc.mono ?_
  clear hcc
  rintro e w7 ⟨⟨vk, rfl, hvk⟩, hA7, hF7⟩
  have H7 := Lib.hid (H6.out.did hA7 hF7)
  have HK7 := Lib.hid (show Chain w7 [slotsB] vk 7 from hvk)
  clear hA7 hF7 H6 c0 c1 hvk
  go_wp2_with fail
  -- Take: b
  have hcc := slots_take H7.out.at_ aw_fine4
  rw [aw_take4] at hcc
  refine hcc.mono ?_
  clear hcc
  rintro e w8 ⟨⟨v8, rfl, rfl⟩, hA8, hF8⟩
  have H8 := Lib.hid ((H7.out.did hA8 hF8).alloc (.cells #[.int .i64 0, .int .u64 2] 24))
  have HK8 := Lib.hid (Chain.keep ((Below.refl _ _).alloc (Nat.le_refl _) (.cells #[.int .i64 0, .int .u64 2] 24)) (chain_fr HK7.out H7.out.at_ hF8))
  have HX8 := Lib.hid (Blk.new w8 24 #[.int .i64 0, .int .u64 2])
  clear hA8 hF8 H7 HK7
  have x0 := HX8.out.cell 0
  have x1 := HX8.out.cell 1
  simp only [List.getElem?_toArray, List.getElem?_cons_zero, List.getElem?_cons_succ] at x0 x1
  go_wp2_with fail
  generalize w8.alloc (.cells #[.int .i64 0, .int .u64 2] 24) = w9 at H8 HK8 HX8 x0 x1 ⊢
  generalize w8.heap.size = gb at HX8 x0 x1 ⊢
  -- Drop b
  have hcc := slots_drop H8.out.at_ aw_fine5 (0, 2)
  rw [aw_drop5, aw_st5] at hcc
  refine hcc.mono ?_
  clear hcc
  rintro e w10 ⟨⟨v10, rfl, rfl⟩, hA10, hF10⟩
  have H10 := Lib.hid (H8.out.did hA10 hF10)
  have HK10 := Lib.hid (chain_fr HK8.out H8.out.at_ hF10)
  have HX10 := Lib.hid (HX8.out.fr hF10 (by rintro (e | e); exact absurd e (HX8.out.ne_ H8.out.at_.blk (by decide)); exact absurd e (HX8.out.ne_ H8.out.at_.row (by decide))))
  clear hA10 hF10 H8 HK8 HX8 x0 x1
  go_wp2_with fail
  -- Take
  have hcc := slots_take H10.out.at_ aw_fine6
  rw [aw_take6] at hcc
  refine hcc.mono ?_
  clear hcc
  rintro e w11 ⟨⟨vl, rfl, hvl⟩, hA11, hF11⟩
  have H11 := Lib.hid ((H10.out.did hA11 hF11).alloc (.cells #[.int .i64 0, .int .u64 0] 24))
  have HK11 := Lib.hid (Chain.keep ((Below.refl _ _).alloc (Nat.le_refl _) (.cells #[.int .i64 0, .int .u64 0] 24)) (chain_fr HK10.out H10.out.at_ hF11))
  have HL11 := Lib.hid (Chain.keep ((Below.refl _ _).alloc (Nat.le_refl _) (.cells #[.int .i64 0, .int .u64 0] 24)) (show Chain w11 [slotsB] vl 8 from hvl))
  have HX11 := Lib.hid ((HX10.out.fr hF11 (by rintro (e | e); exact absurd e (HX10.out.ne_ H10.out.at_.blk (by decide)); exact absurd e (HX10.out.ne_ H10.out.at_.row (by decide)))).alloc (.cells #[.int .i64 0, .int .u64 0] 24))
  clear hA11 hF11 H10 HK10 HX10 hvl
  obtain ⟨c0, c1⟩ := H11.out.c
  have x0 := HX11.out.cell 0
  have x1 := HX11.out.cell 1
  have hlive : ∀ W, At W b g aw6 → Calls Try.prog 10 #[.pointer (some ⟨b, 0, none⟩)] W fun e w' => e = .returned (.int .i64 0) ∧ W = w' := fun W hA => slots_live hA
  have hleft : ∀ W, At W b g aw6 → Calls Try.prog 11 #[.pointer (some ⟨b, 0, none⟩)] W fun e w' => e = .returned (.int .i64 0) ∧ W = w' := fun W hA => slots_left hA
  have HLI := Lib.hid hlive
  have HLE := Lib.hid hleft
  clear hlive hleft
  simp only [List.getElem?_toArray, List.getElem?_cons_zero, List.getElem?_cons_succ] at x0 x1
  go_wp2_with (first
    | (go_at_call 8; (with_reducible refine (is_chain _ vk _ 7 _ HK11.out).mono ?_); rintro e w' ⟨rfl, rfl⟩)
    | (go_at_call 8; (with_reducible refine (is_chain _ vl _ 8 _ HL11.out).mono ?_); rintro e w' ⟨rfl, rfl⟩)
    | (go_at_call 10; refine (HLI.out _ H11.out.at_).mono ?_; rintro e w' ⟨rfl, rfl⟩)
    | (go_at_call 11; refine (HLE.out _ H11.out.at_).mono ?_; rintro e w' ⟨rfl, rfl⟩))
  go_ret
  exact ⟨rfl, H11.out.be⟩
end Go.Proofs.Ytkmmnmicmjohgaa
