/- PunyOnce, walked. -/
import Derived.Test.YtbeibfhnbnmocaaPunyRef
set_option linter.unusedVariables false
set_option linter.unusedSimpArgs false
set_option maxRecDepth 100000
namespace Go.Proofs.Ytbeibfhnbnmocaa
open Go.RowKit Go.Proofs.Ytbeibfhnbnmocaa.Plain Puny

/-- What is decoded are scalars. -/
theorem dec_scalars : ∀ (f : Nat) (s : List UInt8) (D : List Nat) (n i b : Nat) (l : List Nat), dec f s D n i b = some l → (∀ c ∈ D, scalar c = true) → ∀ c ∈ l, scalar c = true
  | f, [], D, n, i, b, l, h, hD => by
    have : dec f [] D n i b = some D := by cases f <;> rfl
    rw [this] at h
    simp only [Option.some.injEq] at h
    subst h
    exact hD
  | 0, _ :: _, _, _, _, _, _, h, _ => by cases h
  | f + 1, c :: s, D, n, i, b, l, h, hD => by
    rw [dec] at h
    split at h
    · cases h
    · split at h
      · rename_i hsc
        refine dec_scalars f _ _ _ _ _ l h fun x hx => ?_
        unfold put at hx
        rcases List.mem_append.1 hx with hx | hx
        · exact hD x (List.mem_of_mem_take hx)
        · rcases List.mem_cons.1 hx with rfl | hx
          · exact hsc
          · exact hD x (List.mem_of_mem_drop hx)
      · cases h
theorem dec_len : ∀ (f : Nat) (s : List UInt8) (D : List Nat) (n i b : Nat) (l : List Nat), dec f s D n i b = some l → l.length ≤ D.length + s.length
  | f, [], D, n, i, b, l, h => by
    have : dec f [] D n i b = some D := by cases f <;> rfl
    rw [this] at h
    simp only [Option.some.injEq] at h
    subst h
    exact Nat.le_add_right _ _
  | 0, _ :: _, _, _, _, _, _, h => by cases h
  | f + 1, c :: s, D, n, i, b, l, h => by
    rw [dec] at h
    split at h
    · cases h
    · rename_i nx s' hr
      split at h
      · have h1 := dec_len f _ _ _ _ _ l h
        rw [put_len] at h1
        obtain ⟨C, q, hC, hCn, -, -⟩ := readW_told _ _ _ _ _ _ _ hr
        have h2 := congrArg List.length hC
        rw [List.length_append] at h2
        have h3 := List.length_pos_iff.2 hCn
        omega
      · cases h
theorem dec_facts {s : List UInt8} {l : List Nat} (h : decL s = some l) : (∀ c ∈ l, scalar c = true) ∧ l.length ≤ s.length := by
  unfold decL at h
  split at h
  · split at h
    · refine ⟨dec_scalars _ _ _ _ _ _ l h fun c hc => ?_, ?_⟩
      · obtain ⟨x, hx, rfl⟩ := List.mem_map.1 hc
        have := x.toNat_lt
        unfold scalar
        rw [decide_eq_true (by omega), Bool.true_or]
      · have := dec_len _ _ _ _ _ _ l h
        rw [List.length_map, List.length_take, List.length_drop] at this
        omega
    · refine ⟨dec_scalars _ _ _ _ _ _ l h (fun c hc => absurd hc List.not_mem_nil), ?_⟩
      have := dec_len _ _ _ _ _ _ l h
      simpa using this
  · cases h
theorem valid_cast (l : List Nat) (h : ∀ c ∈ l, scalar c = true) : (l.map fun n : Nat => (n : Int)).all Lib.validRune = true ∧ (l.map fun n : Nat => (n : Int)).map Int.toNat = l := by
  constructor
  · rw [List.all_eq_true]
    intro y hy
    obtain ⟨n, hn, rfl⟩ := List.mem_map.1 hy
    rw [valid_scalar]
    exact h n hn
  · rw [List.map_map]
    conv => rhs; rw [← List.map_id l]
    exact List.map_congr_left fun n _ => rfl
set_option maxHeartbeats 4000000 in
theorem once_calls (s : ByteArray) (w : World) (hs0 : s.size ≤ 140737488351232) :
    Calls Try.prog 4 #[.string s] w fun e w' => e = .returned (.bool true) ∧ Below w.heap.size w w' := by
  by_cases hs : 80 < s.size
  · have hs' : (80 : Int) < (s.size : Int) := by omega
    go_enter Try.func4, Try.ntmps4
    go_wp2_with fail
    refine (awake_calls w).mono ?_
    rintro e w1 ⟨rfl, hb⟩
    go_wp2_with fail
    go_ret
    exact ⟨rfl, hb⟩
  · have hs' : ¬ (80 : Int) < (s.size : Int) := by omega
    obtain ⟨R, hR⟩ : ∃ R, R = decL s.data.toList := ⟨_, rfl⟩
    have HR := Lib.hid hR
    have HD := Lib.hid (fun w' => decode_calls s (by omega) w')
    have HSM := Lib.hid (fun w' => small_calls s (by omega) w')
    rw [← hR] at HD
    clear hR
    go_enter Try.func4, Try.ntmps4
    go_wp2_with fail
    refine (awake_calls w).mono ?_
    rintro e w1 ⟨rfl, hb⟩
    have HB1 := Lib.hid hb
    clear hb
    go_wp2_with fail
    refine (HD.out w1).mono ?_
    rintro e w2 ⟨he, hb⟩
    have HB2 := Lib.hid (belowOn HB1.out HB1.out.size hb)
    clear hb HB1 HD
    cases R with
    | none =>
      obtain ⟨v, rfl, hch⟩ := he
      have HCH := Lib.hid hch
      obtain ⟨t, x, rfl⟩ := hch.iface
      clear hch
      go_wp2_with fail
      refine (is_chain _ _ _ 2 _ HCH.out).mono ?_
      rintro e w3 ⟨rfl, rfl⟩
      go_wp2_with fail
      go_ret
      exact ⟨rfl, HB2.out⟩
    | some l =>
      obtain ⟨v, rfl, hov⟩ := he
      obtain ⟨hsc, hll⟩ := dec_facts HR.out.symm
      rw [len_data] at hll
      obtain ⟨hv1, hv2⟩ := valid_cast l hsc
      have hed := enc_dec HR.out.symm
      obtain ⟨A', c', rfl, hrow, hlc', -⟩ := hov.row
      have hEn := encode_calls w2 (RowI.toAt hrow) (by rw [List.length_map]; omega) hlc'
      rw [List.length_map] at hEn ⊢
      have HE := Lib.hid hEn
      clear hEn
      clear hov hrow
      go_wp2_with fail
      refine HE.out.mono ?_
      rintro e w3 ⟨he, hb⟩
      unfold EncPost at he
      rw [if_pos hv1, hv2, hed] at he
      obtain ⟨rfl, -⟩ := he
      have HB3 := Lib.hid (belowOn HB2.out HB2.out.size hb)
      clear hb HE
      go_wp2_with fail
      refine (HSM.out w3).mono ?_
      rintro e w4 ⟨rfl, hb⟩
      have HB4 := Lib.hid (belowOn HB3.out HB3.out.size hb)
      clear hb
      go_wp2_with fail
      go_ret
      exact ⟨rfl, HB4.out⟩
end Go.Proofs.Ytbeibfhnbnmocaa
