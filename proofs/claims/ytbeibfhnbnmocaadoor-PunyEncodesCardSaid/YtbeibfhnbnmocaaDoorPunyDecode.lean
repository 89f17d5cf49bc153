/- The program's Decode. -/
import Derived.Test.YtbeibfhnbnmocaaDoorPunyRead
import Derived.Test.YtbeibfhnbnmocaaDoorPunyInsert
import Derived.Test.YtbeibfhnbnmocaaDoorErr
import Derived.Laws.IdiomStrings
import Derived.Laws.RangeString
set_option linter.unusedVariables false
set_option linter.unusedSimpArgs false
set_option maxRecDepth 100000
namespace Go.Proofs.YtbeibfhnbnmocaaDoor
open Go.RowKit Go.Proofs.YtbeibfhnbnmocaaDoor.Plain Puny

/-! Plain. -/
theorem readW_shift (i b : Nat) : ∀ (s : List UInt8) (j w k : Nat), readW s (i + j) w k b = match readW s j w k b with | none => none | some r => if i + r.1 > 1099511627776 then none else some (i + r.1, r.2)
  | [], _, _, _ => rfl
  | c :: s, j, w, k => by
    rw [readW, readW]
    cases value c with
    | none => rfl
    | some d =>
      dsimp only
      by_cases h1 : j + d * w > 1099511627776
      · rw [if_pos h1, if_pos (by omega)]
      · rw [if_neg h1]
        by_cases h2 : d < thr k b
        · rw [if_pos h2, if_pos h2]
          dsimp only
          rw [Nat.add_assoc]
        · rw [if_neg h2, if_neg h2]
          by_cases h3 : w * (36 - thr k b) > 1099511627776
          · rw [if_pos h3, if_pos h3]
            split <;> rfl
          · rw [if_neg h3, if_neg h3, Nat.add_assoc, readW_shift i b s (j + d * w) _ _]
            cases hr : readW s (j + d * w) (w * (36 - thr k b)) (k + 36) b with
            | none => split <;> rfl
            | some r =>
              obtain ⟨C, q, -, -, hq, -⟩ := readW_told b s _ _ _ r.1 r.2 hr
              dsimp only
              by_cases h4 : i + (j + d * w) > 1099511627776
              · rw [if_pos h4, if_pos (by rw [hq]; omega)]
              · rw [if_neg h4]
theorem readW_le (b : Nat) : ∀ (s : List UInt8) (i w k : Nat) (r : Nat × List UInt8), readW s i w k b = some r → r.1 ≤ 1099511627776
  | [], _, _, _, _, h => by simp [readW] at h
  | c :: s, i, w, k, r, h => by
    rw [readW] at h
    split at h
    · cases h
    · split at h
      · cases h
      · split at h
        · simp only [Option.some.injEq] at h
          subst h
          dsimp only
          omega
        · split at h
          · cases h
          · exact readW_le b s _ _ _ r h
theorem dec_step (f : Nat) (t : List UInt8) (D : List Nat) (m i b : Nat) (ht : t ≠ []) : dec (f + 1) t D m i b = match readW t 0 1 36 b with
    | none => none
    | some r => if i + r.1 > 1099511627776 then none else if scalar (m + (i + r.1) / (D.length + 1)) then dec f r.2 (put D ((i + r.1) % (D.length + 1)) (m + (i + r.1) / (D.length + 1))) (m + (i + r.1) / (D.length + 1)) ((i + r.1) % (D.length + 1) + 1) (adapt r.1 (D.length + 1) (i == 0)) else none := by
  obtain ⟨c, s, rfl⟩ := List.exists_cons_of_ne_nil ht
  rw [dec, show readW (c :: s) i 1 36 b = _ from readW_shift i b (c :: s) 0 1 36]
  cases readW (c :: s) 0 1 36 b with
  | none => rfl
  | some r =>
    dsimp only
    by_cases h : i + r.1 > 1099511627776
    · rw [if_pos h, if_pos h]
    · rw [if_neg h, if_neg h]
      dsimp only
      rw [Nat.add_sub_cancel_left]
theorem valid_scalar (n : Nat) : Lib.validRune (n : Int) = scalar n := by
  unfold Lib.validRune scalar
  rw [Bool.eq_iff_iff]
  simp only [decide_eq_true_eq, Bool.or_eq_true, Bool.and_eq_true]
  omega
theorem put_cast (D : List Nat) (y n : Nat) : (D.map fun n : Nat => (n : Int)).take y ++ (n : Int) :: (D.map fun n : Nat => (n : Int)).drop y = (put D y n).map fun n : Nat => (n : Int) := by
  unfold put
  rw [List.map_append, List.map_cons, List.map_take, List.map_drop]
theorem byte_at (s : ByteArray) (j : Nat) (hj : j < s.size) : s.data.toList[j]? = some s.data[j]! := by
  have h1 : j < s.data.size := hj
  rw [Array.getElem?_toList, getElem!_pos s.data j h1]
  exact Array.getElem?_eq_getElem h1
theorem last_hyph (s : ByteArray) : Lib.lastIndexByte s 45 = (hyph s.data.toList : Int) - 1 := by
  have h45 : ∀ j, j < s.size → s.data.toList[j]? = some 45 → ((s.data[j]!).toNat : Int) = 45 := fun j hj h => by
    rw [byte_at s j hj] at h
    simp only [Option.some.injEq] at h
    rw [h]
    rfl
  have h45' : ∀ j, j < s.size → ((s.data[j]!).toNat : Int) = 45 → s.data.toList[j]? = some 45 := fun j hj h => by
    rw [byte_at s j hj]
    congr 1
    apply UInt8.toNat_inj.1
    have : (s.data[j]!).toNat = 45 := by omega
    rw [this]
    rfl
  have hl := len_data s
  rcases hyph_cases s.data.toList with ⟨hn, h0⟩ | ⟨a, b, he, hb, hh⟩
  · rcases Lib.lastIndexByte_spec s 45 with ⟨e, _⟩ | ⟨i, hi, e, hc, _⟩
    · rw [e, h0]
      rfl
    · exact absurd (List.mem_of_getElem? (h45' i hi hc)) hn
  · have hal : a.length < s.size := by rw [← hl, he]; simp
    have ha : s.data.toList[a.length]? = some 45 := by rw [he]; simp
    rcases Lib.lastIndexByte_spec s 45 with ⟨_, hn⟩ | ⟨i, hi, e, hc, hn⟩
    · exact absurd (h45 _ hal ha) (hn _ hal)
    · rw [e, hh]
      by_cases h1 : i < a.length
      · exact absurd (h45 _ hal ha) (hn _ h1 hal)
      · by_cases h2 : a.length < i
        · have h3 := h45' i hi hc
          rw [he, List.getElem?_append_right (by omega)] at h3
          obtain ⟨k, hk⟩ : ∃ k, i - a.length = k + 1 := ⟨i - a.length - 1, by omega⟩
          rw [hk, List.getElem?_cons_succ] at h3
          exact absurd (List.mem_of_getElem? h3) hb
        · omega
theorem runes_ascii (s : ByteArray) (h : ∀ c ∈ s.data.toList, c < 128) : ∀ (n i : Nat) (acc : Array Value), s.size ≤ n + i → (Conv.runesFrom s n i acc).toList = acc.toList ++ (s.data.toList.drop i).map (fun c => Value.int .i32 (c.toNat : Int))
  | 0, i, acc, hn => by
    rw [List.drop_eq_nil_of_le (by rw [len_data]; omega)]
    simp [Conv.runesFrom]
  | n + 1, i, acc, hn => by
    unfold Conv.runesFrom
    split
    · rename_i hi
      obtain ⟨c, hc⟩ := byte_some hi
      have hlow : (s[i]'hi).toNat < 128 := by
        have hm : (s[i]'hi) ∈ s.data.toList := by
          have : s.data.toList[i]? = some (s[i]'hi) := by rw [Array.getElem?_toList]; exact Array.getElem?_eq_getElem hi
          exact List.mem_of_getElem? this
        have := h _ hm
        rw [UInt8.lt_iff_toNat_lt] at this
        exact this
      rw [decode_ascii s i hi hlow]
      dsimp only
      rw [runes_ascii s h n (i + 1) _ (by omega)]
      have hd : s.data.toList.drop i = (s[i]'hi) :: s.data.toList.drop (i + 1) := by
        have hi' : i < s.data.toList.length := by rw [len_data]; exact hi
        rw [List.drop_eq_getElem_cons hi']
        congr 1
      rw [hd]
      simp
    · rw [List.drop_eq_nil_of_le (by rw [len_data]; omega)]
      simp

/-! The walks. -/
theorem wrong_calls (w : World) : Calls Tryd.prog 16 #[] w fun e w' => ∃ v, e = .returned v ∧ Chain w' [⟨#[112, 117, 110, 121]⟩] v 2 ∧ Below w.heap.size w w' := by
  go_enter Tryd.func16, Tryd.ntmps16
  go_wp2_with fail
  refine (wrap_some _ _ _ _).mono ?_
  rintro e w1 ⟨rfl, rfl⟩
  go_wp2_with fail
  go_ret
  exact ⟨_, rfl, .fail _ _ _ _ _ (heap_alloc_new w _) (.num 2), (Below.refl _ w).alloc (Nat.le_refl _) _⟩
theorem none_calls (w : World) : Calls Tryd.prog 29 #[] w fun e w' => ∃ v, e = .returned (.tuple #[.slice none 0 0, v]) ∧ Chain w' [⟨#[112, 117, 110, 121]⟩] v 2 ∧ Below w.heap.size w w' := by
  go_enter Tryd.func29, Tryd.ntmps29
  go_wp2_with fail
  refine (wrong_calls _).mono ?_
  rintro e w1 ⟨v, rfl, hc, hb⟩
  go_wp2_with fail
  go_ret2
  exact ⟨v, rfl, hc, hb⟩
/-- A plain text's code points. -/
theorem conv_runes (s : ByteArray) (hlow : ∀ c ∈ s.data.toList, c < 128) (hs : s.size ≤ 100000) (w : World) {B : Nat} (hB : B ≤ w.heap.size) :
    ∃ v w', (convert 9 22 (.string s)).run Tryd.prog w = .ok v w' ∧ OwnI w' B 21 .i32 v (s.data.toList.map fun c => (c.toNat : Int)) ∧ Below B w w' := by
  have hr := runes_ascii s hlow s.size 0 #[] (by omega)
  rw [List.drop_zero, List.nil_append] at hr
  have hlen : (Conv.runesFrom s s.size 0 #[]).size = s.size := by
    rw [← Array.length_toList, hr, List.length_map, len_data]
  have h := run_runes_of_string (P := Tryd.prog) w 9 22 21 s Tryd.underlying9 Tryd.underlying22 Tryd.underlying21 (by rw [hlen]; omega)
  refine ⟨_, _, h, ?_, ((Below.refl B w).drew).alloc hB _⟩
  unfold OwnI
  rw [hlen]
  refine ⟨by simp, .inr ⟨w.heap.size, _, _, by rw [List.length_map, len_data], hB, Blk.new w.drew _ _, ?_, grownCap_le_maxLen _ _ _ _ (by unfold maxLen; omega), ?_, ?_⟩⟩
  · rw [List.length_map, len_data]
    exact grownCap_ge _ _ _ _
  · have := grownCap_ge w s.size 0 21
    rw [Array.size_append, hlen, Array.size_replicate]
    omega
  · rw [Array.toList_append, hr, List.length_map, Nat.mul_one, List.take_left' (by rw [List.length_map]), List.map_map]
    rfl
/-- What the program's Decode tells. -/
def DecPost (B : Nat) (R : Option (List Nat)) (e : Ending) (w : World) : Prop :=
  match R with
  | some l => ∃ v, e = .returned (.tuple #[v, .nilIface]) ∧ OwnI w B 21 .i32 v (l.map fun n : Nat => (n : Int))
  | none => ∃ v, e = .returned (.tuple #[.slice none 0 0, v]) ∧ Chain w [⟨#[112, 117, 110, 121]⟩] v 2
set_option maxHeartbeats 4000000 in
theorem decode_calls (s : ByteArray) (hs : s.size ≤ 60000) (w : World) :
    Calls Tryd.prog 9 #[.string s] w fun e w' => DecPost w.heap.size (decL s.data.toList) e w' ∧ Below w.heap.size w w' := by
  obtain ⟨R, hR⟩ : ∃ R, R = decL s.data.toList := ⟨_, rfl⟩
  rw [← hR]
  have HR := Lib.hid hR
  have hs1 : ¬ (65536 : Int) < (s.size : Int) := by omega
  clear hR
  go_enter Tryd.func9, Tryd.ntmps9
  go_wp2_with fail
  go_loopg [5, 22] s.size (fun n v5 v22 w' => Hid (∃ p : Nat, v22 = .int .i64 p ∧ n = s.size - p ∧ p ≤ s.size ∧ (∀ j c, j < p → s.data.toList[j]? = some c → c < 128) ∧ Below w.heap.size w w'))
  case atStart => exact ⟨0, rfl, rfl, Nat.zero_le _, fun j c hj => absurd hj (Nat.not_lt_zero _), Below.refl _ _⟩
  case round =>
    obtain ⟨p, rfl, hn, hp, hall, hbe⟩ := hrel.out
    clear hrel
    have HALL := Lib.hid hall
    have HBE := Lib.hid hbe
    have HNM := Lib.hid hn
    clear hall hbe hn
    by_cases hlt : p < s.size
    · obtain ⟨c, hc⟩ := byte_some hlt
      have hlt' : (p : Int) < (s.size : Int) := by omega
      have hsc : s[p]'hlt = c := by
        have h2 : s.data[p]? = some c := by simpa using hc
        exact (Array.getElem?_eq_some_iff.1 h2).2
      have HC := Lib.hid hc
      clear hc
      by_cases hlow : c < 128
      · have hl1 : ¬ (128 : Int) ≤ (c.toNat : Int) := by
          rw [UInt8.lt_iff_toNat_lt] at hlow
          have : (128 : UInt8).toNat = 128 := rfl
          omega
        go_wp2_with fail
        go_roundg (s.size - (p + 1))
        case measure => have := HNM.out; omega
        case rel =>
          refine ⟨p + 1, by first | rfl | simp, rfl, by omega, fun j d hj hd => ?_, HBE.out⟩
          by_cases hjp : j < p
          · exact HALL.out j d hjp hd
          · have hjp' : j = p := by omega
            subst hjp'
            rw [HC.out] at hd
            simp only [Option.some.injEq] at hd
            subst hd
            exact hlow
      · have hl1 : (128 : Int) ≤ (c.toNat : Int) := by
          rw [UInt8.lt_iff_toNat_lt] at hlow
          have : (128 : UInt8).toNat = 128 := rfl
          omega
        have hres : R = none := by
          rw [HR.out]
          unfold decL
          rw [if_neg]
          intro hall
          rw [List.all_eq_true] at hall
          have := hall c (List.mem_of_getElem? HC.out)
          rw [decide_eq_true_eq] at this
          exact hlow this
        subst hres
        go_wp2_with fail
        refine (none_calls _).mono ?_
        rintro e w1 ⟨v, rfl, hc, hb⟩
        have HCH := Lib.hid hc
        have HBE1 := Lib.hid (belowOn HBE.out HBE.out.size hb)
        clear hc hb
        go_wp2_with fail
        go_ret2
        exact ⟨⟨v, rfl, HCH.out⟩, HBE1.out⟩
    · have hlt' : ¬ (p : Int) < (s.size : Int) := by omega
      have hall : s.data.toList.all (· < 128) = true := by
        rw [List.all_eq_true]
        intro c hc
        obtain ⟨j, hj, rfl⟩ := List.mem_iff_getElem.1 hc
        rw [decide_eq_true_eq]
        exact HALL.out j _ (by rw [len_data] at hj; omega) (List.getElem?_eq_getElem hj)
      have HAL := Lib.hid hall
      have hR2 : R = if 1 < hyph s.data.toList then dec (s.data.toList.drop (hyph s.data.toList)).length (s.data.toList.drop (hyph s.data.toList)) ((s.data.toList.take (hyph s.data.toList - 1)).map UInt8.toNat) 128 0 72 else dec s.data.toList.length s.data.toList [] 128 0 72 := by
        rw [HR.out]
        unfold decL
        rw [if_pos hall]
      have hly := last_hyph s
      have hyl : hyph s.data.toList ≤ s.size := by
        rw [← len_data s]
        unfold hyph
        omega
      have hLI := Tryd.strings_LastIndexByte s 45 (by omega) wr
      rw [hly] at hLI
      generalize hyph s.data.toList = y at hR2 hLI hyl
      have HR2 := Lib.hid hR2
      have HLI := Lib.hid hLI
      clear hall hly hR2 hLI HR HALL HNM
      by_cases hy : 1 < y
      · obtain ⟨z, rfl⟩ : ∃ z, y = z + 1 := ⟨y - 1, by omega⟩
        have hz0 : (0 : Int) < (z : Int) := by omega
        have hR3 : R = dec (s.data.toList.drop (z + 1)).length (s.data.toList.drop (z + 1)) ((s.data.toList.take z).map UInt8.toNat) 128 0 72 := by
          rw [HR2.out, if_pos hy, Nat.add_sub_cancel]
        have HR3 := Lib.hid hR3
        have hLI := HLI.out
        rw [show ((z + 1 : Nat) : Int) - 1 = (z : Int) by omega] at hLI
        have HLI2 := Lib.hid hLI
        clear hLI HLI HR2 hR3
        have hex : (s.extract 0 z).data.toList = s.data.toList.take z := take_data s z
        obtain ⟨v6, wv, hcv, hov, hbv⟩ := conv_runes (s.extract 0 z) (by
          intro c hc
          rw [hex] at hc
          have := List.all_eq_true.1 HAL.out c (List.mem_of_mem_take hc)
          rwa [decide_eq_true_eq] at this) (by rw [← len_data, hex, List.length_take, len_data]; omega) wr HBE.out.size
        rw [hex] at hov
        have HOV := Lib.hid hov
        have HBE2 := Lib.hid (HBE.out.trans hbv)
        have HEX := Lib.hid hex
        clear hov hbv hex
        go_wp2_with fail
        refine HLI2.out.mono ?_
        rintro e w1 ⟨rfl, rfl⟩
        go_wp2_with (simp only [hcv])
        simp only [show decide (0 < z) = true by rw [decide_eq_true_eq]; omega]
        go_loopg [0, 6, 8, 9, 10] (s.extract (z + 1) s.size).size (fun n v0 v6 v8 v9 v10 w' => Hid (∃ (t : ByteArray) (f m i b : Nat) (D : List Nat), v0 = .string t ∧ v8 = .int .i64 m ∧ v9 = .int .i64 i ∧ v10 = .int .i64 b ∧ n = t.size ∧ t.size ≤ f ∧ dec f t.data.toList D m i b = R ∧ OwnI w' w.heap.size 21 .i32 v6 (D.map fun n : Nat => (n : Int)) ∧ D.length + t.size ≤ 60000 ∧ m ≤ 1114111 ∧ i ≤ D.length ∧ b ≤ 4398046511140 ∧ Below w.heap.size w w'))
        case atStart => 
          have hdd : (s.extract (z + 1) s.size).data.toList = s.data.toList.drop (z + 1) := drop_data s (z + 1)
          have hds : (s.extract (z + 1) s.size).size = (s.data.toList.drop (z + 1)).length := by rw [← len_data, hdd]
          exact ⟨s.extract (z + 1) s.size, (s.data.toList.drop (z + 1)).length, 128, 0, 72, (s.data.toList.take z).map UInt8.toNat, rfl, rfl, rfl, rfl, rfl, Nat.le_of_eq hds, by rw [hdd]; exact HR3.out.symm, by rw [List.map_map]; exact HOV.out, by rw [hds, List.length_map, List.length_take, List.length_drop, len_data]; omega, by omega, Nat.zero_le _, by omega, HBE2.out⟩
        case round =>
          obtain ⟨t, f, m, i, b, D, rfl, rfl, rfl, rfl, hn, hf, hR, hO, hlen, hm, hi, hb, hbe⟩ := hrel.out
          clear hrel
          obtain ⟨A, c, rfl, -, hlc, -⟩ := hO.row
          have hLl : (D.map fun n : Nat => (n : Int)).length = D.length := List.length_map _
          rw [hLl] at hO hlc ⊢
          have HO := Lib.hid hO
          have HBE := Lib.hid hbe
          have HNM := Lib.hid hn
          have HRR := Lib.hid hR
          have HLL := Lib.hid hLl
          clear hO hbe hn hR hLl
          by_cases ht0 : t.size = 0
          · have htl : t.data.toList = [] := List.eq_nil_of_length_eq_zero (by rw [len_data]; exact ht0)
            have hres : R = some D := by rw [← HRR.out, htl]; cases f <;> rfl
            clear HRR
            subst hres
            have ht0' : ¬ (0 : Int) < (t.size : Int) := by omega
            go_wp2_with fail
            go_ret2
            exact ⟨⟨_, rfl, HO.out⟩, HBE.out⟩
          · have htp : (0 : Int) < (t.size : Int) := by omega
            obtain ⟨f, rfl⟩ : ∃ g, f = g + 1 := ⟨f - 1, by omega⟩
            have hst := dec_step f t.data.toList D m i b (fun e => ht0 (by rw [← len_data, e]; rfl))
            rw [HRR.out] at hst
            have hRD := read_calls t b (by omega) (by omega) wr
            clear HRR
            cases hr : readW t.data.toList 0 1 36 b with
            | none =>
              rw [hr] at hst hRD
              dsimp only at hst
              subst hst
              simp only [readV] at hRD
              have HRD := Lib.hid hRD
              clear hRD hr
              go_wp2_with fail
              refine HRD.out.mono ?_
              rintro e w1 ⟨rfl, hb1⟩
              have HBE1 := Lib.hid (belowOn HBE.out HBE.out.size hb1)
              clear hb1 HRD
              go_wp2_with fail
              refine (none_calls _).mono ?_
              rintro e w2 ⟨v, rfl, hc, hb2⟩
              have HCH := Lib.hid hc
              have HBE2 := Lib.hid (belowOn HBE1.out HBE1.out.size hb2)
              clear hc hb2
              go_wp2_with fail
              go_ret2
              exact ⟨⟨v, rfl, HCH.out⟩, HBE2.out⟩
            | some r =>
              obtain ⟨q, t'⟩ := r
              rw [hr] at hst hRD
              dsimp only at hst
              have hq := readW_le b _ _ _ _ _ hr
              obtain ⟨C, -, hC, hCn, -, -⟩ := readW_told b _ _ _ _ _ _ hr
              obtain ⟨k, hk⟩ : ∃ k, k = C.length := ⟨_, rfl⟩
              have hk0 : 0 < k := by rw [hk]; exact List.length_pos_iff.2 hCn
              have hkl : t.size = k + t'.length := by rw [← len_data, hC, List.length_append, hk]
              have hkt : t.data.toList.drop k = t' := by rw [hC, hk]; simp
              have hrv : readV t.data.toList (some (q, t')) = .tuple #[.int .i64 q, .int .i64 k] := by
                unfold readV
                dsimp only
                rw [len_data, show t.size - t'.length = k by omega]
              rw [hrv] at hRD
              have HRD := Lib.hid hRD
              have HST := Lib.hid hst
              have HKT := Lib.hid hkt
              dsimp only at hq
              clear hRD hr hst hC hCn hk hkt hrv
              have hk0' : ((k : Int) == 0) = false := by rw [beq_eq_false_iff_ne]; omega
              by_cases hM : i + q > 1099511627776
              · have hres : R = none := by rw [HST.out, if_pos hM]
                clear HST
                subst hres
                have hM' : (1099511627776 : Int) < (i : Int) + (q : Int) := by omega
                go_wp2_with fail
                refine HRD.out.mono ?_
                rintro e w1 ⟨rfl, hb1⟩
                have HBE1 := Lib.hid (belowOn HBE.out HBE.out.size hb1)
                clear hb1 HRD
                go_wp2_with fail
                refine (none_calls _).mono ?_
                rintro e w2 ⟨v, rfl, hc, hb2⟩
                have HCH := Lib.hid hc
                have HBE2 := Lib.hid (belowOn HBE1.out HBE1.out.size hb2)
                clear hc hb2
                go_wp2_with fail
                go_ret2
                exact ⟨⟨v, rfl, HCH.out⟩, HBE2.out⟩
              · have hM' : ¬ (1099511627776 : Int) < (i : Int) + (q : Int) := by omega
                rw [if_neg hM] at HST
                obtain ⟨x, hx⟩ : ∃ x, x = (i + q) / (D.length + 1) := ⟨_, rfl⟩
                obtain ⟨y, hy'⟩ : ∃ y, y = (i + q) % (D.length + 1) := ⟨_, rfl⟩
                have hxl : x ≤ i + q := by rw [hx]; exact Nat.div_le_self _ _
                have hyl' : y < D.length + 1 := by rw [hy']; exact Nat.mod_lt _ (by omega)
                have hz : ¬ ((D.length : Int) + 1 = 0) := by omega
                have e1 : ((i : Int) + (q : Int)).tdiv ((D.length : Int) + 1) = (x : Int) := by
                  rw [show (i : Int) + (q : Int) = ((i + q : Nat) : Int) by omega, show (D.length : Int) + 1 = ((D.length + 1 : Nat) : Int) by omega, Int.tdiv_eq_ediv_of_nonneg (by omega), hx]
                  rfl
                have e2 : ((i : Int) + (q : Int)).tmod ((D.length : Int) + 1) = (y : Int) := by
                  rw [show (i : Int) + (q : Int) = ((i + q : Nat) : Int) by omega, show (D.length : Int) + 1 = ((D.length + 1 : Nat) : Int) by omega, Int.tmod_eq_emod_of_nonneg (by omega), hy']
                  rfl
                have w4 : IntKind.i64.wrap (x : Int) = (x : Int) := by rw [IntKind.wrap_i64]; omega
                rw [← hx, ← hy'] at HST
                have hAD := adapt_calls q (D.length + 1) (i == 0) hq (by omega) (by omega)
                have hal := adapt_le q (D.length + 1) (i == 0)
                rw [show ((D.length + 1 : Nat) : Int) = (D.length : Int) + 1 by omega, show (i == 0) = ((i : Int) == 0) by rw [Bool.eq_iff_iff]; simp] at hAD
                rw [show (i == 0) = ((i : Int) == 0) by rw [Bool.eq_iff_iff]; simp] at HST hal
                generalize adapt q (D.length + 1) ((i : Int) == 0) = b' at HST hal hAD
                have HAD := Lib.hid hAD
                clear hAD hx hy'
                go_wp2_with fail
                refine HRD.out.mono ?_
                rintro e w1 ⟨rfl, hb1⟩
                have HBE1 := Lib.hid (belowOn HBE.out HBE.out.size hb1)
                have HO1 := Lib.hid (OwnI.below HO.out hb1)
                clear hb1 HRD HBE HO
                go_wp2_with fail
                refine (HAD.out w1).mono ?_
                rintro e w2 ⟨rfl, hb1⟩
                have HBE2 := Lib.hid (belowOn HBE1.out HBE1.out.size hb1)
                have HO2 := Lib.hid (OwnI.below HO1.out hb1)
                clear hb1 HAD HBE1 HO1
                by_cases hbig : 1114111 < m + x
                · have hres : R = none := by
                    rw [HST.out, if_neg]
                    unfold scalar
                    simp only [Bool.or_eq_true, Bool.and_eq_true, decide_eq_true_eq]
                    omega
                  clear HST
                  subst hres
                  have hbig' : (1114111 : Int) < (m : Int) + (x : Int) := by omega
                  go_wp2_with fail
                  refine (none_calls _).mono ?_
                  rintro e w3 ⟨v, rfl, hc, hb2⟩
                  have HCH := Lib.hid hc
                  have HBE3 := Lib.hid (belowOn HBE2.out HBE2.out.size hb2)
                  clear hc hb2
                  go_wp2_with fail
                  go_ret2
                  exact ⟨⟨v, rfl, HCH.out⟩, HBE3.out⟩
                · have hbig' : ¬ (1114111 : Int) < (m : Int) + (x : Int) := by omega
                  have w32 : IntKind.i32.wrap ((m : Int) + (x : Int)) = (m : Int) + (x : Int) := by rw [IntKind.wrap_i32]; omega
                  have hVR := Tryd.utf8_ValidRune ((m : Int) + (x : Int)) w2
                  rw [show (m : Int) + (x : Int) = ((m + x : Nat) : Int) by omega, valid_scalar, show ((m + x : Nat) : Int) = (m : Int) + (x : Int) by omega] at hVR
                  by_cases hsc : scalar (m + x) = true
                  · rw [hsc] at hVR
                    rw [if_pos hsc] at HST
                    have HVR := Lib.hid hVR
                    clear hVR
                    go_wp2_with fail
                    refine HVR.out.mono ?_
                    rintro e w3 ⟨rfl, rfl⟩
                    clear HVR
                    have HO3 := Lib.hid (OwnI.below HO2.out ((Below.refl w3.heap.size w3).alloc (Nat.le_refl _) (.cells #[.int .i32 ((m : Int) + (x : Int))] 21)))
                    have HBE3 := Lib.hid (HBE2.out.trans ((Below.refl w.heap.size w3).alloc HBE2.out.size (.cells #[.int .i32 ((m : Int) + (x : Int))] 21)))
                    have hown : (Value.slice A D.length c).ownBlock ≠ some w3.heap.size := fun e => by
                      obtain ⟨_, cur, hcur⟩ := OwnI.blk HO2.out e
                      exact absurd hcur.lt (Nat.lt_irrefl _)
                    have hins := insert_calls HO3.out (by rw [HLL.out]; omega) y (by rw [HLL.out]; omega) ((m : Int) + (x : Int)) (Blk.new w3 _ _) hown HBE3.out.size
                    rw [show (m : Int) + (x : Int) = ((m + x : Nat) : Int) by omega, put_cast, show ((m + x : Nat) : Int) = (m : Int) + (x : Int) by omega] at hins
                    have HINS := Lib.hid hins
                    have HKL := Lib.hid hkl
                    clear hins HO2 HBE2 hown
                    go_wp2_with fail
                    refine HINS.out.mono ?_
                    rintro e w4 ⟨v, rfl, hov, hb2⟩
                    have HO4 := Lib.hid hov
                    have HBE4 := Lib.hid (HBE3.out.trans hb2)
                    clear hov hb2 HINS HO3 HBE3
                    go_wp2_with fail
                    go_roundg t'.length
                    case measure => have := HNM.out; omega
                    case rel =>
                      have hpl := put_len D y (m + x)
                      have htd : (t.extract k (k + t'.length)).data.toList = t' := by
                        rw [← HKL.out, drop_data]
                        exact HKT.out
                      have hts : (t.extract k (k + t'.length)).size = t'.length := by rw [← len_data, htd]
                      exact ⟨t.extract k (k + t'.length), f, m + x, y + 1, b', put D y (m + x), rfl, by first | rfl | simp, by first | rfl | simp, rfl, hts.symm, by rw [hts]; omega, by rw [htd]; exact HST.out.symm, HO4.out, by rw [hts, hpl]; omega, by omega, by rw [hpl]; omega, by omega, HBE4.out⟩
                  · have hsf : scalar (m + x) = false := by simpa using hsc
                    rw [hsf] at hVR
                    have hres : R = none := by rw [HST.out, if_neg hsc]
                    clear HST
                    subst hres
                    have HVR := Lib.hid hVR
                    clear hVR
                    go_wp2_with fail
                    refine HVR.out.mono ?_
                    rintro e w3 ⟨rfl, rfl⟩
                    clear HVR
                    go_wp2_with fail
                    refine (none_calls _).mono ?_
                    rintro e w4 ⟨v, rfl, hc, hb2⟩
                    have HCH := Lib.hid hc
                    have HBE3 := Lib.hid (belowOn HBE2.out HBE2.out.size hb2)
                    clear hc hb2
                    go_wp2_with fail
                    go_ret2
                    exact ⟨⟨v, rfl, HCH.out⟩, HBE3.out⟩
      · have hR3 : R = dec s.data.toList.length s.data.toList [] 128 0 72 := by rw [HR2.out, if_neg hy]
        have hz0 : ¬ (0 : Int) < (y : Int) - 1 := by omega
        have HR3 := Lib.hid hR3
        clear HR2 hR3
        go_wp2_with fail
        refine HLI.out.mono ?_
        rintro e w1 ⟨rfl, rfl⟩
        go_wp2_with fail
        go_loopg [0, 6, 8, 9, 10] s.size (fun n v0 v6 v8 v9 v10 w' => Hid (∃ (t : ByteArray) (f m i b : Nat) (D : List Nat), v0 = .string t ∧ v8 = .int .i64 m ∧ v9 = .int .i64 i ∧ v10 = .int .i64 b ∧ n = t.size ∧ t.size ≤ f ∧ dec f t.data.toList D m i b = R ∧ OwnI w' w.heap.size 21 .i32 v6 (D.map fun n : Nat => (n : Int)) ∧ D.length + t.size ≤ 60000 ∧ m ≤ 1114111 ∧ i ≤ D.length ∧ b ≤ 4398046511140 ∧ Below w.heap.size w w'))
        case atStart => exact ⟨s, _, 128, 0, 72, [], rfl, rfl, rfl, rfl, rfl, Nat.le_of_eq (len_data s).symm, HR3.out.symm, OwnI.nil _ _ _ _, by simpa using hs, by omega, Nat.zero_le _, by omega, HBE.out⟩
        case round =>
          obtain ⟨t, f, m, i, b, D, rfl, rfl, rfl, rfl, hn, hf, hR, hO, hlen, hm, hi, hb, hbe⟩ := hrel.out
          clear hrel
          obtain ⟨A, c, rfl, -, hlc, -⟩ := hO.row
          have hLl : (D.map fun n : Nat => (n : Int)).length = D.length := List.length_map _
          rw [hLl] at hO hlc ⊢
          have HO := Lib.hid hO
          have HBE := Lib.hid hbe
          have HNM := Lib.hid hn
          have HRR := Lib.hid hR
          have HLL := Lib.hid hLl
          clear hO hbe hn hR hLl
          by_cases ht0 : t.size = 0
          · have htl : t.data.toList = [] := List.eq_nil_of_length_eq_zero (by rw [len_data]; exact ht0)
            have hres : R = some D := by rw [← HRR.out, htl]; cases f <;> rfl
            clear HRR
            subst hres
            have ht0' : ¬ (0 : Int) < (t.size : Int) := by omega
            go_wp2_with fail
            go_ret2
            exact ⟨⟨_, rfl, HO.out⟩, HBE.out⟩
          · have htp : (0 : Int) < (t.size : Int) := by omega
            obtain ⟨f, rfl⟩ : ∃ g, f = g + 1 := ⟨f - 1, by omega⟩
            have hst := dec_step f t.data.toList D m i b (fun e => ht0 (by rw [← len_data, e]; rfl))
            rw [HRR.out] at hst
            have hRD := read_calls t b (by omega) (by omega) wr
            clear HRR
            cases hr : readW t.data.toList 0 1 36 b with
            | none =>
              rw [hr] at hst hRD
              dsimp only at hst
              subst hst
              simp only [readV] at hRD
              have HRD := Lib.hid hRD
              clear hRD hr
              go_wp2_with fail
              refine HRD.out.mono ?_
              rintro e w1 ⟨rfl, hb1⟩
              have HBE1 := Lib.hid (belowOn HBE.out HBE.out.size hb1)
              clear hb1 HRD
              go_wp2_with fail
              refine (none_calls _).mono ?_
              rintro e w2 ⟨v, rfl, hc, hb2⟩
              have HCH := Lib.hid hc
              have HBE2 := Lib.hid (belowOn HBE1.out HBE1.out.size hb2)
              clear hc hb2
              go_wp2_with fail
              go_ret2
              exact ⟨⟨v, rfl, HCH.out⟩, HBE2.out⟩
            | some r =>
              obtain ⟨q, t'⟩ := r
              rw [hr] at hst hRD
              dsimp only at hst
              have hq := readW_le b _ _ _ _ _ hr
              obtain ⟨C, -, hC, hCn, -, -⟩ := readW_told b _ _ _ _ _ _ hr
              obtain ⟨k, hk⟩ : ∃ k, k = C.length := ⟨_, rfl⟩
              have hk0 : 0 < k := by rw [hk]; exact List.length_pos_iff.2 hCn
              have hkl : t.size = k + t'.length := by rw [← len_data, hC, List.length_append, hk]
              have hkt : t.data.toList.drop k = t' := by rw [hC, hk]; simp
              have hrv : readV t.data.toList (some (q, t')) = .tuple #[.int .i64 q, .int .i64 k] := by
                unfold readV
                dsimp only
                rw [len_data, show t.size - t'.length = k by omega]
              rw [hrv] at hRD
              have HRD := Lib.hid hRD
              have HST := Lib.hid hst
              have HKT := Lib.hid hkt
              dsimp only at hq
              clear hRD hr hst hC hCn hk hkt hrv
              have hk0' : ((k : Int) == 0) = false := by rw [beq_eq_false_iff_ne]; omega
              by_cases hM : i + q > 1099511627776
              · have hres : R = none := by rw [HST.out, if_pos hM]
                clear HST
                subst hres
                have hM' : (1099511627776 : Int) < (i : Int) + (q : Int) := by omega
                go_wp2_with fail
                refine HRD.out.mono ?_
                rintro e w1 ⟨rfl, hb1⟩
                have HBE1 := Lib.hid (belowOn HBE.out HBE.out.size hb1)
                clear hb1 HRD
                go_wp2_with fail
                refine (none_calls _).mono ?_
                rintro e w2 ⟨v, rfl, hc, hb2⟩
                have HCH := Lib.hid hc
                have HBE2 := Lib.hid (belowOn HBE1.out HBE1.out.size hb2)
                clear hc hb2
                go_wp2_with fail
                go_ret2
                exact ⟨⟨v, rfl, HCH.out⟩, HBE2.out⟩
              · have hM' : ¬ (1099511627776 : Int) < (i : Int) + (q : Int) := by omega
                rw [if_neg hM] at HST
                obtain ⟨x, hx⟩ : ∃ x, x = (i + q) / (D.length + 1) := ⟨_, rfl⟩
                obtain ⟨y, hy'⟩ : ∃ y, y = (i + q) % (D.length + 1) := ⟨_, rfl⟩
                have hxl : x ≤ i + q := by rw [hx]; exact Nat.div_le_self _ _
                have hyl' : y < D.length + 1 := by rw [hy']; exact Nat.mod_lt _ (by omega)
                have hz : ¬ ((D.length : Int) + 1 = 0) := by omega
                have e1 : ((i : Int) + (q : Int)).tdiv ((D.length : Int) + 1) = (x : Int) := by
                  rw [show (i : Int) + (q : Int) = ((i + q : Nat) : Int) by omega, show (D.length : Int) + 1 = ((D.length + 1 : Nat) : Int) by omega, Int.tdiv_eq_ediv_of_nonneg (by omega), hx]
                  rfl
                have e2 : ((i : Int) + (q : Int)).tmod ((D.length : Int) + 1) = (y : Int) := by
                  rw [show (i : Int) + (q : Int) = ((i + q : Nat) : Int) by omega, show (D.length : Int) + 1 = ((D.length + 1 : Nat) : Int) by omega, Int.tmod_eq_emod_of_nonneg (by omega), hy']
                  rfl
                have w4 : IntKind.i64.wrap (x : Int) = (x : Int) := by rw [IntKind.wrap_i64]; omega
                rw [← hx, ← hy'] at HST
                have hAD := adapt_calls q (D.length + 1) (i == 0) hq (by omega) (by omega)
                have hal := adapt_le q (D.length + 1) (i == 0)
                rw [show ((D.length + 1 : Nat) : Int) = (D.length : Int) + 1 by omega, show (i == 0) = ((i : Int) == 0) by rw [Bool.eq_iff_iff]; simp] at hAD
                rw [show (i == 0) = ((i : Int) == 0) by rw [Bool.eq_iff_iff]; simp] at HST hal
                generalize adapt q (D.length + 1) ((i : Int) == 0) = b' at HST hal hAD
                have HAD := Lib.hid hAD
                clear hAD hx hy'
                go_wp2_with fail
                refine HRD.out.mono ?_
                rintro e w1 ⟨rfl, hb1⟩
                have HBE1 := Lib.hid (belowOn HBE.out HBE.out.size hb1)
                have HO1 := Lib.hid (OwnI.below HO.out hb1)
                clear hb1 HRD HBE HO
                go_wp2_with fail
                refine (HAD.out w1).mono ?_
                rintro e w2 ⟨rfl, hb1⟩
                have HBE2 := Lib.hid (belowOn HBE1.out HBE1.out.size hb1)
                have HO2 := Lib.hid (OwnI.below HO1.out hb1)
                clear hb1 HAD HBE1 HO1
                by_cases hbig : 1114111 < m + x
                · have hres : R = none := by
                    rw [HST.out, if_neg]
                    unfold scalar
                    simp only [Bool.or_eq_true, Bool.and_eq_true, decide_eq_true_eq]
                    omega
                  clear HST
                  subst hres
                  have hbig' : (1114111 : Int) < (m : Int) + (x : Int) := by omega
                  go_wp2_with fail
                  refine (none_calls _).mono ?_
                  rintro e w3 ⟨v, rfl, hc, hb2⟩
                  have HCH := Lib.hid hc
                  have HBE3 := Lib.hid (belowOn HBE2.out HBE2.out.size hb2)
                  clear hc hb2
                  go_wp2_with fail
                  go_ret2
                  exact ⟨⟨v, rfl, HCH.out⟩, HBE3.out⟩
                · have hbig' : ¬ (1114111 : Int) < (m : Int) + (x : Int) := by omega
                  have w32 : IntKind.i32.wrap ((m : Int) + (x : Int)) = (m : Int) + (x : Int) := by rw [IntKind.wrap_i32]; omega
                  have hVR := Tryd.utf8_ValidRune ((m : Int) + (x : Int)) w2
                  rw [show (m : Int) + (x : Int) = ((m + x : Nat) : Int) by omega, valid_scalar, show ((m + x : Nat) : Int) = (m : Int) + (x : Int) by omega] at hVR
                  by_cases hsc : scalar (m + x) = true
                  · rw [hsc] at hVR
                    rw [if_pos hsc] at HST
                    have HVR := Lib.hid hVR
                    clear hVR
                    go_wp2_with fail
                    refine HVR.out.mono ?_
                    rintro e w3 ⟨rfl, rfl⟩
                    clear HVR
                    have HO3 := Lib.hid (OwnI.below HO2.out ((Below.refl w3.heap.size w3).alloc (Nat.le_refl _) (.cells #[.int .i32 ((m : Int) + (x : Int))] 21)))
                    have HBE3 := Lib.hid (HBE2.out.trans ((Below.refl w.heap.size w3).alloc HBE2.out.size (.cells #[.int .i32 ((m : Int) + (x : Int))] 21)))
                    have hown : (Value.slice A D.length c).ownBlock ≠ some w3.heap.size := fun e => by
                      obtain ⟨_, cur, hcur⟩ := OwnI.blk HO2.out e
                      exact absurd hcur.lt (Nat.lt_irrefl _)
                    have hins := insert_calls HO3.out (by rw [HLL.out]; omega) y (by rw [HLL.out]; omega) ((m : Int) + (x : Int)) (Blk.new w3 _ _) hown HBE3.out.size
                    rw [show (m : Int) + (x : Int) = ((m + x : Nat) : Int) by omega, put_cast, show ((m + x : Nat) : Int) = (m : Int) + (x : Int) by omega] at hins
                    have HINS := Lib.hid hins
                    have HKL := Lib.hid hkl
                    clear hins HO2 HBE2 hown
                    go_wp2_with fail
                    refine HINS.out.mono ?_
                    rintro e w4 ⟨v, rfl, hov, hb2⟩
                    have HO4 := Lib.hid hov
                    have HBE4 := Lib.hid (HBE3.out.trans hb2)
                    clear hov hb2 HINS HO3 HBE3
                    go_wp2_with fail
                    go_roundg t'.length
                    case measure => have := HNM.out; omega
                    case rel =>
                      have hpl := put_len D y (m + x)
                      have htd : (t.extract k (k + t'.length)).data.toList = t' := by
                        rw [← HKL.out, drop_data]
                        exact HKT.out
                      have hts : (t.extract k (k + t'.length)).size = t'.length := by rw [← len_data, htd]
                      exact ⟨t.extract k (k + t'.length), f, m + x, y + 1, b', put D y (m + x), rfl, by first | rfl | simp, by first | rfl | simp, rfl, hts.symm, by rw [hts]; omega, by rw [htd]; exact HST.out.symm, HO4.out, by rw [hts, hpl]; omega, by omega, by rw [hpl]; omega, by omega, HBE4.out⟩
                  · have hsf : scalar (m + x) = false := by simpa using hsc
                    rw [hsf] at hVR
                    have hres : R = none := by rw [HST.out, if_neg hsc]
                    clear HST
                    subst hres
                    have HVR := Lib.hid hVR
                    clear hVR
                    go_wp2_with fail
                    refine HVR.out.mono ?_
                    rintro e w3 ⟨rfl, rfl⟩
                    clear HVR
                    go_wp2_with fail
                    refine (none_calls _).mono ?_
                    rintro e w4 ⟨v, rfl, hc, hb2⟩
                    have HCH := Lib.hid hc
                    have HBE3 := Lib.hid (belowOn HBE2.out HBE2.out.size hb2)
                    clear hc hb2
                    go_wp2_with fail
                    go_ret2
                    exact ⟨⟨v, rfl, HCH.out⟩, HBE3.out⟩
end Go.Proofs.YtbeibfhnbnmocaaDoor
