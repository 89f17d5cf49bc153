/- TableNobody, walked. -/
import Derived.Test.YtlpjjbkpoaohnaaTabAwake
set_option linter.unusedVariables false
set_option linter.unusedSimpArgs false
namespace Go.Proofs.Ytlpjjbkpoaohnaa
open Go.RowKit Slots

theorem key_nil (a : Int × Int) (w : World) :
    Calls Try.prog 10 #[.pointer none, .agg #[.int .i64 a.1, .int .u64 a.2]] w fun e w' => (∃ v, e = .returned (.tuple #[.string ⟨#[]⟩, v]) ∧ ErrT w' (some 1) v) ∧ Below w.heap.size w w' := by
  have hb0 := Blk.new w 36 #[.int .i64 a.1, .int .u64 a.2]
  have HC := Lib.hid (entry_nil a (w.alloc (.cells #[.int .i64 a.1, .int .u64 a.2] 36)))
  have y0 := hb0.cell 0
  have y1 := hb0.cell 1
  simp only [List.getElem?_toArray, List.getElem?_cons_zero, List.getElem?_cons_succ] at y0 y1
  have HF0 := Lib.hid ((Below.refl w.heap.size w).alloc (Nat.le_refl _) (.cells #[.int .i64 a.1, .int .u64 a.2] 36))
  clear hb0
  go_enter Try.func10, Try.ntmps10
  go_wp2_with fail
  refine HC.out.mono ?_
  rintro e w1 ⟨⟨v, rfl, l, hv⟩, hF⟩
  obtain ⟨t0, x0, hx0⟩ := hv.iface
  subst hx0
  have HV := Lib.hid hv
  have HF := Lib.hid (belowOn HF0.out HF0.out.size hF)
  clear hF hv
  go_wp2_with fail
  go_ret2
  exact ⟨⟨_, rfl, _, HV.out⟩, HF.out⟩
set_option maxRecDepth 100000 in
theorem url_nil (a : Int × Int) (w : World) :
    Calls Try.prog 9 #[.pointer none, .agg #[.int .i64 a.1, .int .u64 a.2]] w fun e w' => (∃ Z v, e = .returned (.tuple #[.agg Z, v]) ∧ UrlOk Z ∧ ErrT w' (some 1) v) ∧ Below w.heap.size w w' := by
  have hu0 : Blk ((w.alloc (.cells #[.int .i64 a.1, .int .u64 a.2] 36)).alloc (.cells zeroUrl 31)) (w.heap.size + 1) 31 zeroUrl := by
    have := Blk.new (w.alloc (.cells #[.int .i64 a.1, .int .u64 a.2] 36)) 31 zeroUrl
    simpa using this
  have HC := Lib.hid (entry_nil a ((w.alloc (.cells #[.int .i64 a.1, .int .u64 a.2] 36)).alloc (.cells zeroUrl 31)))
  have HF0 := Lib.hid (((Below.refl w.heap.size w).alloc (Nat.le_refl _) (.cells #[.int .i64 a.1, .int .u64 a.2] 36)).alloc (by simp) (.cells zeroUrl 31))
  have HU0 := Lib.hid hu0
  have hb0 := (Blk.new w 36 #[.int .i64 a.1, .int .u64 a.2]).alloc (.cells zeroUrl 31)
  have y0 := hb0.cell 0
  have y1 := hb0.cell 1
  simp only [List.getElem?_toArray, List.getElem?_cons_zero, List.getElem?_cons_succ] at y0 y1
  have hz : zeroUrl.size = 21 := rfl
  have HZK := Lib.hid (urlS_ok ⟨#[]⟩)
  rw [← zeroUrl_s] at HZK
  clear hb0 hu0
  go_enter Try.func9, Try.ntmps9
  go_wp2_with fail
  refine HC.out.mono ?_
  rintro e w1 ⟨⟨v, rfl, l, hv⟩, hF⟩
  obtain ⟨t0, x0, hx0⟩ := hv.iface
  subst hx0
  have hU := HU0.out.keep hF
  have HUB := Lib.hid hU
  have HF := Lib.hid (below_setCells (g := w.heap.size + 1) (Nat.le_succ _) zeroUrl.toList 0 w1 (belowOn HF0.out HF0.out.size hF))
  have HV := Lib.hid (hv.blk hU (by decide) (fun i hi => setCells_other _ zeroUrl.toList 0 w1 i hi))
  have HU := Lib.hid (hU.setAll (us := zeroUrl) rfl)
  clear hF hU hv
  go_wp2_with (with_reducible (refine wpList_store_url (u := zeroUrl) HUB.out hz HZK.out rfl _ _ rfl rfl rfl ?_))
  refine bodyPost_ret (results_cell_row2 rfl _ _ (w.heap.size + 1) 31 _ (0, 0) _ rfl HU.out Try.underlying31 rfl (by rw [info_url]; rfl)) rfl ?_
  exact ⟨⟨_, _, rfl, HZK.out, _, HV.out⟩, HF.out⟩
theorem in_nil (i : Int) (w : World) : Calls Try.prog 15 #[.pointer none, .int .i64 i] w fun e w' => e = .returned (.int .i64 0) ∧ w = w' := by
  go_enter Try.func15, Try.ntmps15
  go_wp2
  go_ret
  exact ⟨rfl, rfl⟩

set_option maxRecDepth 100000 in
set_option maxHeartbeats 4000000 in
theorem nobody_calls (a : Int × Int) (k : ByteArray) (w : World) :
    Calls Try.prog 4 #[.agg #[.int .i64 a.1, .int .u64 a.2], .string k] w fun e w' => e = .returned (.bool true) ∧ Below w.heap.size w w' := by
  have hb0 := Blk.new w 36 #[.int .i64 a.1, .int .u64 a.2]
  have HB0 := Lib.hid hb0
  have H0 := Lib.hid ((Below.refl w.heap.size w).alloc (Nat.le_refl _) (.cells #[.int .i64 a.1, .int .u64 a.2] 36))
  clear hb0
  go_enter Try.func4, Try.ntmps4
  go_wp2_with fail
  refine (awake_calls _).mono ?_
  rintro e w1 ⟨rfl, hb⟩
  have HX1 := Lib.hid (HB0.out.keep hb)
  have H1 := Lib.hid (belowOn H0.out H0.out.size hb)
  clear hb H0 HB0
  go_wp2_with fail
  refine (intern_nil k (urlS ⟨#[]⟩) w1).mono ?_
  rintro e w2 ⟨⟨v2, rfl, hv2⟩, hb⟩
  have HX2 := Lib.hid (HX1.out.keep hb)
  have H2 := Lib.hid (belowOn H1.out H1.out.size hb)
  have HV2 := Lib.hid hv2
  clear hb H1 HX1 hv2
  go_wp2_with fail
  have hal := (Below.refl w2.heap.size w2).alloc (Nat.le_refl _) (.cells #[.int .i64 0, .int .u64 0] 36)
  have HX3 := Lib.hid (HX2.out.keep hal)
  have H3 := Lib.hid (belowOn H2.out H2.out.size hal)
  have HV3 := Lib.hid (HV2.out.keep hal)
  clear hal H2 HX2 HV2
  refine (find_nil k _).mono ?_
  rintro e w4 ⟨rfl, hb⟩
  have hX4 := HX3.out.keep hb
  have c0 := hX4.cell 0
  have c1 := hX4.cell 1
  have lt0 := hX4.lt
  simp only [List.getElem?_toArray, List.getElem?_cons_zero, List.getElem?_cons_succ] at c0 c1
  have HX4 := Lib.hid hX4
  have H4 := Lib.hid (belowOn H3.out H3.out.size hb)
  have HV4 := Lib.hid (HV3.out.keep hb)
  clear hb H3 HX3 HV3 hX4
  go_wp2_with fail
  have hal := (Below.refl w4.heap.size w4).alloc (Nat.le_refl _) (.cells #[.int .i64 0, .int .u64 0] 36)
  have HX5 := Lib.hid (HX4.out.keep hal)
  have H5 := Lib.hid (belowOn H4.out H4.out.size hal)
  have HV5 := Lib.hid (HV4.out.keep hal)
  clear hal H4 HX4 HV4 c0 c1 lt0
  refine (url_nil a _).mono ?_
  rintro e w6 ⟨⟨Z, v6, rfl, hZ, hv6⟩, hb⟩
  have HX6 := Lib.hid (HX5.out.keep hb)
  have H6 := Lib.hid (belowOn H5.out H5.out.size hb)
  have HV6 := Lib.hid (HV5.out.keep hb)
  have HU6 := Lib.hid hv6
  clear hb H5 HX5 HV5 hv6
  have hz := Blk.new w6 31 #[.string ⟨#[]⟩, .string ⟨#[]⟩, .string ⟨#[]⟩, .int .i64 0, .string ⟨#[]⟩, .int .u32 0, .int .u16 0, .int .u16 0, .int .u16 0, .int .u16 0, .int .u16 0, .int .u16 0, .int .u16 0, .int .u16 0, .int .i64 0, .bool false, .slice none 0 0, .bool false, .string ⟨#[]⟩, .bool false, .string ⟨#[]⟩]
  have hb7 : Below w6.heap.size w6 ((w6.alloc (.cells #[.string ⟨#[]⟩, .string ⟨#[]⟩, .string ⟨#[]⟩, .int .i64 0, .string ⟨#[]⟩, .int .u32 0, .int .u16 0, .int .u16 0, .int .u16 0, .int .u16 0, .int .u16 0, .int .u16 0, .int .u16 0, .int .u16 0, .int .i64 0, .bool false, .slice none 0 0, .bool false, .string ⟨#[]⟩, .bool false, .string ⟨#[]⟩] 31)).setCells w6.heap.size 0 Z.toList) := below_setCells (Nat.le_refl _) Z.toList 0 _ ((Below.refl _ w6).alloc (Nat.le_refl _) _)
  have hX7 := HX6.out.keep hb7
  have c0 := hX7.cell 0
  have c1 := hX7.cell 1
  simp only [List.getElem?_toArray, List.getElem?_cons_zero, List.getElem?_cons_succ] at c0 c1
  have HX7 := Lib.hid hX7
  have H7 := Lib.hid (belowOn H6.out H6.out.size hb7)
  have HV7 := Lib.hid (HV6.out.keep hb7)
  have HU7 := Lib.hid (HU6.out.keep hb7)
  have HZK := Lib.hid hZ
  have HZ := Lib.hid hz
  clear hz hb7 hX7 HX6 H6 HV6 HU6 hZ
  as_aux_lemma =>
    go_wp2_with (with_reducible (refine wpList_store_url (u := Z) HZ.out rfl HZK.out rfl _ _ rfl rfl rfl ?_))
    generalize (w6.alloc (.cells #[.string ⟨#[]⟩, .string ⟨#[]⟩, .string ⟨#[]⟩, .int .i64 0, .string ⟨#[]⟩, .int .u32 0, .int .u16 0, .int .u16 0, .int .u16 0, .int .u16 0, .int .u16 0, .int .u16 0, .int .u16 0, .int .u16 0, .int .i64 0, .bool false, .slice none 0 0, .bool false, .string ⟨#[]⟩, .bool false, .string ⟨#[]⟩] 31)).setCells w6.heap.size 0 Z.toList = W7 at *
    refine (key_nil a _).mono ?_
    rintro e w8 ⟨⟨v8, rfl, hv8⟩, hb⟩
    have hX8 := HX7.out.keep hb
    have d0 := hX8.cell 0
    have d1 := hX8.cell 1
    simp only [List.getElem?_toArray, List.getElem?_cons_zero, List.getElem?_cons_succ] at d0 d1
    have HX8 := Lib.hid hX8
    have H8 := Lib.hid (belowOn H7.out H7.out.size hb)
    have HV8 := Lib.hid (HV7.out.keep hb)
    have HU8 := Lib.hid (HU7.out.keep hb)
    have HK8 := Lib.hid hv8
    clear hb H7 HX7 HV7 HU7 hv8 hX8 c0 c1
    go_wp2_with fail
    refine (tell_nil a _).mono ?_
    rintro e w9 ⟨⟨v9, rfl, hv9⟩, hb⟩
    have hX9 := HX8.out.keep hb
    have c0 := hX9.cell 0
    have c1 := hX9.cell 1
    simp only [List.getElem?_toArray, List.getElem?_cons_zero, List.getElem?_cons_succ] at c0 c1
    have HX9 := Lib.hid hX9
    have H9 := Lib.hid (belowOn H8.out H8.out.size hb)
    have HV9 := Lib.hid (HV8.out.keep hb)
    have HU9 := Lib.hid (HU8.out.keep hb)
    have HK9 := Lib.hid (HK8.out.keep hb)
    have HC9 := Lib.hid hv9
    clear hb H8 HX8 HV8 HU8 HK8 hv9 hX9 d0 d1
    as_aux_lemma =>
      go_wp2_with fail
      refine (isT_calls _ _ 1 _ HV9.out).mono ?_
      rintro e w' ⟨rfl, rfl⟩
      go_wp2_with fail
      refine (isT_calls _ _ 1 _ HU9.out).mono ?_
      rintro e w' ⟨rfl, rfl⟩
      go_wp2_with fail
      refine (isT_calls _ _ 1 _ HK9.out).mono ?_
      rintro e w' ⟨rfl, rfl⟩
      go_wp2_with fail
      refine (isT_calls _ _ 1 _ HC9.out).mono ?_
      rintro e w' ⟨rfl, rfl⟩
      go_wp2_with fail
      refine (release_nil a _).mono ?_
      rintro e w10 ⟨⟨v10, rfl, hv10⟩, hb⟩
      have H10 := Lib.hid (belowOn H9.out H9.out.size hb)
      have HR10 := Lib.hid hv10
      clear hb hv10
      go_wp2_with fail
      refine (isT_calls _ _ 1 _ HR10.out).mono ?_
      rintro e w' ⟨rfl, rfl⟩
      go_wp2_with fail
      refine (live_nil _).mono ?_
      rintro e w' ⟨rfl, rfl⟩
      go_wp2_with fail
      refine (in_nil 0 _).mono ?_
      rintro e w' ⟨rfl, rfl⟩
      go_wp2_with fail
      go_ret
      exact ⟨rfl, H10.out⟩
end Go.Proofs.Ytlpjjbkpoaohnaa
