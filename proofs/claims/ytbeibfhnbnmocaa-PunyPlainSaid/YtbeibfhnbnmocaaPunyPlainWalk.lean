/- PunyPlain, walked. -/
import Derived.Test.YtbeibfhnbnmocaaPunyRef
import Derived.Test.YtbeibfhnbnmocaaPunyOnceWalk
set_option linter.unusedVariables false
set_option linter.unusedSimpArgs false
set_option maxRecDepth 100000
namespace Go.Proofs.Ytbeibfhnbnmocaa
open Go.RowKit Go.Proofs.Ytbeibfhnbnmocaa.Plain Puny

/-- The law's code points: each byte's rest by 128. -/
def mods (s : ByteArray) : List Nat := s.data.toList.map fun c => c.toNat % 128
theorem encode_low : ∀ n : Nat, n < 128 → Utf8.encode (n : Int) = ⟨#[UInt8.ofNat n]⟩ := by
  intro n hn
  have : ∀ n : Fin 128, Utf8.encode ((n.val : Nat) : Int) = ⟨#[UInt8.ofNat n.val]⟩ := by decide +kernel
  exact this ⟨n, hn⟩
theorem runes_low : ∀ (l : List Nat) (s : ByteArray), (∀ n ∈ l, n < 128) → (l.map fun n : Nat => (n : Int)).foldl (fun r n => r ++ Utf8.encode n) s = s ++ ⟨(l.map UInt8.ofNat).toArray⟩
  | [], s, _ => by
    apply data_inj
    simp
  | n :: l, s, h => by
    rw [List.map_cons, List.foldl_cons, encode_low n (h n (by simp)), runes_low l _ fun x hx => h x (by simp [hx])]
    apply data_inj
    simp
theorem bytes_low (l : List Nat) (h : ∀ n ∈ l, n < 128) : runesBytes (l.map fun n : Nat => (n : Int)) = ⟨(l.map UInt8.ofNat).toArray⟩ := by
  unfold runesBytes
  rw [runes_low l _ h]
  apply data_inj
  simp
set_option maxHeartbeats 4000000 in
theorem plain_calls (s : ByteArray) (w : World) (hs0 : s.size ≤ 140737488351232) :
    Calls Try.prog 5 #[.string s] w fun e w' => e = .returned (.bool true) ∧ Below w.heap.size w w' := by
  by_cases hs : 60 < s.size
  · have hs' : (60 : Int) < (s.size : Int) := by omega
    go_enter Try.func5, Try.ntmps5
    go_wp2_with fail
    refine (awake_calls w).mono ?_
    rintro e w1 ⟨rfl, hb⟩
    go_wp2_with fail
    go_ret
    exact ⟨rfl, hb⟩
  · have hs' : ¬ (60 : Int) < (s.size : Int) := by omega
    have hml : (mods s).length = s.size := by unfold mods; rw [List.length_map, len_data]
    have hlow : ∀ n ∈ mods s, n < 128 := fun n hn => by
      obtain ⟨c, _, rfl⟩ := List.mem_map.1 hn
      exact Nat.mod_lt _ (by decide)
    have HML := Lib.hid hml
    have HLOW := Lib.hid hlow
    clear hml hlow
    go_enter Try.func5, Try.ntmps5
    go_wp2_with fail
    refine (awake_calls w).mono ?_
    rintro e w1 ⟨rfl, hb⟩
    have HB1 := Lib.hid hb
    clear hb
    go_wp2_with fail
    go_loopg [4, 5] s.size (fun k v4 v5 w' => Hid (∃ p : Nat, v5 = .int .i64 p ∧ k = s.size - p ∧ p ≤ s.size ∧ OwnI w' w.heap.size 21 .i32 v4 (((mods s).take p).map fun n : Nat => (n : Int)) ∧ Below w.heap.size w w'))
    case atStart => exact ⟨0, rfl, rfl, Nat.zero_le _, OwnI.nil _ _ _ _, HB1.out⟩
    case round =>
      obtain ⟨p, rfl, hk, hp, hown, hbe⟩ := hrel.out
      clear hrel HB1
      have HK := Lib.hid hk
      have HO := Lib.hid hown
      have HBE := Lib.hid hbe
      clear hk hown hbe
      by_cases hlt : p < s.size
      · obtain ⟨x, hx⟩ := byte_some hlt
        have hlt' : (p : Int) < (s.size : Int) := by omega
        have hsx : s[p]'hlt = x := by
          have h2 : s.data[p]? = some x := by simpa using hx
          exact (Array.getElem?_eq_some_iff.1 h2).2
        have hx8 := x.toNat_lt
        have hmx : (mods s)[p]? = some (x.toNat % 128) := by unfold mods; rw [List.getElem?_map, hx]; rfl
        have hst : ((mods s).take (p + 1)).map (fun n : Nat => (n : Int)) = (((mods s).take p).map fun n : Nat => (n : Int)) ++ [((x.toNat % 128 : Nat) : Int)] := by
          rw [List.take_add_one, hmx, List.map_append]
          rfl
        have HST := Lib.hid hst
        have hlen : (((mods s).take p).map fun n : Nat => (n : Int)).length = p := by
          rw [List.length_map, List.length_take, HML.out]
          omega
        have HLEN := Lib.hid hlen
        have htm : (x.toNat : Int).tmod 128 = ((x.toNat % 128 : Nat) : Int) := by
          rw [Int.tmod_eq_emod_of_nonneg (by omega)]
          rfl
        clear hx hmx hst hlen
        obtain ⟨A, c, rfl, -, hlc, hA⟩ := HO.out.row
        obtain ⟨y, hy⟩ : ∃ y, y = x.toNat % 128 := ⟨_, rfl⟩
        have hy8 : y < 128 := by omega
        rw [← hy] at htm HST
        have HY := Lib.hid hy
        clear hy
        have w32 : IntKind.i32.wrap (y : Int) = (y : Int) := by rw [IntKind.wrap_i32]; omega
        have w8 : IntKind.u8.wrap (y : Int) = (y : Int) := by rw [IntKind.wrap_u8]; omega
        have HROW := Lib.hid hA
        have hrow2 : ∀ k, (Value.slice A (((mods s).take p).map fun n : Nat => (n : Int)).length c).ownBlock = some k → w.heap.size ≤ k := fun k hk => (OwnI.blk HO.out hk).1
        have HW2 := Lib.hid hrow2
        clear hA hrow2
        have hBA := HBE.out.alloc HBE.out.size (.cells #[.int .i32 (y : Int)] 21)
        have HBA := Lib.hid hBA
        clear hBA
        go_wp2_with (at_builtin; refine stop_here ?_)
        refine stop_go ?_
        refine wpList_appendI rfl (.tmp 19) (.tmp 25) 22 21 .i32 4 rfl Try.underlying22 info_r32 (by decide) w.heap.size _ _ (some ⟨wr.heap.size, 0, none⟩) 1 [(y : Int)] rfl rfl (OwnI.below HO.out ((Below.refl wr.heap.size wr).alloc (Nat.le_refl _) _)) (row_fresh wr [(y : Int)]) (by rw [HLEN.out]; show p + 1 ≤ 1000000; omega) HBA.out.size ?_
        intro v' w' hv' hg' _
        rw [← HST.out] at hv'
        have HV := Lib.hid hv'
        have HB := Lib.hid (HBA.out.trans (grown_below hg' HBA.out.size HW2.out))
        clear hv' hg'
        go_wp2
        go_roundg (s.size - (p + 1))
        case measure => have := HK.out; omega
        case rel => exact ⟨p + 1, by first | rfl | simp, rfl, by omega, HV.out, HB.out⟩
      · have hlt' : ¬ (p : Int) < (s.size : Int) := by omega
        have hpe : (mods s).take p = mods s := List.take_of_length_le (by rw [HML.out]; omega)
        have hown := HO.out
        rw [hpe] at hown
        have hsc : ∀ c ∈ mods s, scalar c = true := fun c hc => by
          have := HLOW.out c hc
          unfold scalar
          rw [decide_eq_true (by omega), Bool.true_or]
        obtain ⟨hv1, hv2⟩ := valid_cast _ hsc
        have hep := enc_plain (mods s) HLOW.out
        have HOWN := Lib.hid hown
        obtain ⟨A, c, rfl, hrow, hlc, -⟩ := hown.row
        have hEn := encode_calls wr (RowI.toAt hrow) (by rw [List.length_map, HML.out]; omega) hlc
        rw [List.length_map, HML.out] at hEn HOWN ⊢
        have HE := Lib.hid hEn
        have HEP := Lib.hid hep
        have HV1 := Lib.hid hv1
        have HV2 := Lib.hid hv2
        clear hrow hEn hlc hown HO hep hv1 hv2 hsc hpe
        go_wp2_with fail
        refine HE.out.mono ?_
        rintro e w2 ⟨he, hb⟩
        unfold EncPost at he
        rw [if_pos HV1.out, HV2.out, HEP.out, HML.out] at he
        obtain ⟨rfl, -⟩ := he
        have HB2 := Lib.hid (belowOn HBE.out HBE.out.size hb)
        have hcv := conv_back (OwnI.below HOWN.out hb)
        rw [bytes_low _ HLOW.out] at hcv
        clear hb HE HOWN
        by_cases h0 : s.size = 0
        · have hm0 : mods s = [] := List.eq_nil_of_length_eq_zero (by rw [HML.out]; exact h0)
          have hz : (s.size : Int) = 0 := by omega
          rw [if_pos h0, hm0, List.map_nil, List.append_nil]
          clear hcv
          go_wp2_with fail
          go_ret
          exact ⟨rfl, HB2.out⟩
        · have hz : ¬ (s.size : Int) = 0 := by omega
          rw [if_neg h0]
          obtain ⟨M, hM⟩ : ∃ M : ByteArray, M = ⟨((mods s).map UInt8.ofNat).toArray⟩ := ⟨_, rfl⟩
          rw [← hM] at hcv
          have hMM : (⟨((mods s).map UInt8.ofNat ++ [45]).toArray⟩ : ByteArray) = M ++ ⟨#[45]⟩ := by
            apply data_inj
            rw [hM]
            simp
          have hMs : M.size = s.size := by rw [← len_data, hM, List.length_map, HML.out]
          have hadd : ∀ w, (Op.stringOp .add M ⟨#[45]⟩).run Try.prog w = .ok (.string (M ++ ⟨#[45]⟩)) w := fun w => run_string_add_sum w _ _ (by have : (⟨#[45]⟩ : ByteArray).size = 1 := rfl; omega)
          rw [hMM]
          have HMS := Lib.hid hMs
          clear hM hMM hMs
          go_wp2_with (simp only [hcv])
          go_ret
          exact ⟨rfl, HB2.out⟩
end Go.Proofs.Ytbeibfhnbnmocaa
