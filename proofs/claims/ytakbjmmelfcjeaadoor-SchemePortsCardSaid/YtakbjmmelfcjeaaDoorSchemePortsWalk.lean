/- The law SchemePorts, walked: the port that any text tells, or that it tells none. -/
import Derived.Test.YtakbjmmelfcjeaaDoorPureLib
import Derived.Test.YtakbjmmelfcjeaaDoorSchemeAwake
import Derived.Test.YtakbjmmelfcjeaaDoorErrCode
import Derived.Test.YtakbjmmelfcjeaaDoorPSchemex1
import Derived.Test.YtakbjmmelfcjeaaDoorPSchemex1
set_option linter.unusedVariables false
set_option linter.unusedSimpArgs false
namespace Go.Proofs.YtakbjmmelfcjeaaDoor
open Go.RowKit Go.Proofs.YtakbjmmelfcjeaaDoorW.PrintWords Go.Proofs.YtakbjmmelfcjeaaDoor.PScheme Go.Proofs.YtakbjmmelfcjeaaDoor.Plain

theorem default_ref (s : ByteArray) : ∃ n, scheme_Default.f s = some n ∧ Ev (fun k => gatepostref10_Default.f k s) n := by
  unfold scheme_Default.f gatepostref10_Default.f
  have hj : ∀ b k, gatepostref10_Default.j0 (k + 1) s b = (if b = true then (some 80) else (if s.toList = ([104, 116, 116, 112, 115] : List UInt8) then (some 443) else (if s.toList = ([119, 115, 115] : List UInt8) then (some 443) else (some (-1))))) := fun b k => rfl
  have hk : ∀ k, 1 ≤ k → ∃ m, k = m + 1 := fun k hk => ⟨k - 1, by omega⟩
  generalize s.toList = l at hj
  by_cases h1 : l = [102, 116, 112]
  · subst h1; exact ⟨21, by simp, 1, fun k h => by simp⟩
  by_cases h2 : l = [104, 116, 116, 112]
  · subst h2; exact ⟨80, by simp, 1, fun k h => by obtain ⟨m, rfl⟩ := hk k h; simp [hj]⟩
  by_cases h3 : l = [119, 115]
  · subst h3; exact ⟨80, by simp, 1, fun k h => by obtain ⟨m, rfl⟩ := hk k h; simp [hj]⟩
  by_cases h4 : l = [119, 115, 115]
  · subst h4; exact ⟨443, by simp, 1, fun k h => by obtain ⟨m, rfl⟩ := hk k h; simp [hj]⟩
  by_cases h5 : l = [104, 116, 116, 112, 115]
  · subst h5; exact ⟨443, by simp, 1, fun k h => by obtain ⟨m, rfl⟩ := hk k h; simp [hj]⟩
  exact ⟨-1, by simp [h1, h2, h3, h4, h5], 1, fun k h => by obtain ⟨m, rfl⟩ := hk k h; simp [hj, h1, h2, h3, h4, h5]⟩
theorem default_ev (s : ByteArray) : Ev (fun k => gatepostref10_Default.f k s) (defaultOf s) := by
  obtain ⟨n, h1, h2⟩ := default_ref s
  rw [default_some] at h1
  obtain rfl := Option.some.inj h1
  exact h2

def portEnd (r : Option Int) : Int × Int := match r with | some n => (n, 0) | none => (0, 4)
theorem port_round (s sc : ByteArray) (i : Nat) (c : UInt8) (n : Int) (k : Nat) (hs : s.size ≤ 140737488351232) (h : s.data.toList[i]? = some c) (h0 : 0 ≤ n) (h1 : n ≤ 100000) :
    gatepostref10_Port.l0 (k + 1) s sc n i = if (c.toNat : Int) < 48 then some (0, 4) else if (c.toNat : Int) > 57 then some (0, 4) else gatepostref10_Port.l0 k s sc (min (10 * n + c.toNat - 48) 100000) ((i + 1 : Nat) : Int) := by
  have hi : i < s.size := by have := (List.getElem?_eq_some_iff.1 h).1; simpa using this
  have hc := c.toNat_lt
  have hw : wrap64 ((i : Int) + 1) = ((i + 1 : Nat) : Int) := by rw [wrap_in (by omega) (by omega)]; omega
  simp only [gatepostref10_Port.l0]
  rw [if_pos (by omega), if_pos (by omega), bt_nat s i c h, hw]
  rw [wrap_in (x := 10 * n) (by omega) (by omega), wrap_in (x := (c.toNat : Int)) (by omega) (by omega), wrap_in (x := 10 * n + (c.toNat : Int)) (by omega) (by omega), wrap_in (x := 10 * n + (c.toNat : Int) - 48) (by omega) (by omega)]
  rw [show mn (10 * n + (c.toNat : Int) - 48) 100000 = min (10 * n + (c.toNat : Int) - 48) 100000 by unfold mn; split <;> omega]
theorem port_over (s sc : ByteArray) (hs : s.size ≤ 140737488351232) : ∀ (d i : Nat) (n : Int), i ≤ s.size → s.size - i = d → 65535 < n → n ≤ 100000 → Ev (fun k => gatepostref10_Port.l0 k s sc n i) (0, 4) := by
  intro d
  induction d with
  | zero =>
    intro i n hi hd h0 h1
    refine Ev.step (f := fun _ => some (0, 4)) (fun k => ?_) (Ev.now _)
    simp only [gatepostref10_Port.l0]
    rw [if_neg (by omega), if_pos (by omega)]
  | succ d ih =>
    intro i n hi hd h0 h1
    obtain ⟨c, hc⟩ := byte_some (s := s) (i := i) (by omega)
    refine Ev.step (fun k => port_round s sc i c n k hs hc (by omega) h1) ?_
    refine Ev.ite (fun _ => Ev.now _) (fun h2 => Ev.ite (fun _ => Ev.now _) (fun h3 => ?_))
    exact ih (i + 1) _ (by omega) (by omega) (by omega) (by omega)
theorem port_loop (s sc : ByteArray) (hs : s.size ≤ 140737488351232) (hne : s.size ≠ 0) : ∀ (d i : Nat) (n : Int), i ≤ s.size → s.size - i = d → 0 ≤ n → n ≤ 65535 →
    Ev (fun k => gatepostref10_Port.l0 k s sc n i) (portEnd ((portR (s.data.toList.drop i) n).map fun n => if s.size = 0 ∨ n = defaultOf sc then -1 else n)) := by
  intro d
  induction d with
  | zero =>
    intro i n hi hd h0 h1
    rw [List.drop_eq_nil_of_le (by rw [len_data]; omega)]
    simp only [portR, Option.map_some, portEnd, hne, false_or]
    refine Ev.step (f := fun k => (gatepostref10_Default.f k sc).bind fun t => if n = t then some (-1, 0) else some (n, 0)) (fun k => ?_) (Ev.bind (default_ev sc) ?_)
    · simp only [gatepostref10_Port.l0]
      rw [if_neg (by omega), if_neg (by omega)]
    · by_cases h : n = defaultOf sc
      · rw [if_pos h, if_pos h]; exact Ev.now _
      · rw [if_neg h, if_neg h]; exact Ev.now _
  | succ d ih =>
    intro i n hi hd h0 h1
    obtain ⟨c, hc⟩ := byte_some (s := s) (i := i) (by omega)
    have hdrop : s.data.toList.drop i = c :: s.data.toList.drop (i + 1) := by
      obtain ⟨hl, hg⟩ := List.getElem?_eq_some_iff.1 hc
      rw [List.drop_eq_getElem_cons hl, hg]
    rw [hdrop]
    simp only [portR]
    refine Ev.step (fun k => port_round s sc i c n k hs hc h0 (by omega)) ?_
    refine Ev.ite (fun h2 => ?_) (fun h2 => Ev.ite (fun h3 => ?_) (fun h3 => ?_))
    · rw [if_neg (by omega)]; exact Ev.now _
    · rw [if_neg (by omega)]; exact Ev.now _
    · by_cases h4 : n * 10 + (c.toNat : Int) - 48 ≤ 65535
      · rw [if_pos ⟨by omega, by omega, h4⟩]
        rw [show min (10 * n + (c.toNat : Int) - 48) 100000 = n * 10 + (c.toNat : Int) - 48 by omega]
        exact ih (i + 1) _ (by omega) (by omega) (by omega) (by omega)
      · rw [if_neg (by omega)]
        exact port_over s sc hs d (i + 1) _ (by omega) (by omega) (by omega) (by omega)
theorem port_ref (s sc : ByteArray) (hs : s.size ≤ 140737488351232) : Ev (fun k => gatepostref10_Port.f k s sc) (portEnd (portOf s sc)) := by
  unfold gatepostref10_Port.f
  refine Ev.ite (fun h => ?_) (fun h => ?_)
  · have h0 : s.size = 0 := by omega
    have hl : s.data.toList = [] := List.length_eq_zero_iff.1 (by rw [len_data]; exact h0)
    unfold portOf
    rw [hl]
    simp only [portR, Option.map_some, portEnd, h0, true_or, if_true]
    exact Ev.now _
  · have := port_loop s sc hs (by omega) s.size 0 0 (Nat.zero_le _) rfl (by omega) (by omega)
    rw [List.drop_zero] at this
    exact this

set_option maxHeartbeats 2000000 in
theorem ports_calls (s sc : ByteArray) (w : World) (hs : s.size ≤ 140737488351232) (hg : ErrType w) :
    Calls Tryd.prog 3 #[.string s, .string sc] w fun e w' => e = .returned (.bool true) ∧ Below w.heap.size w w' := by
  obtain ⟨k, hk⟩ := (port_ref s sc hs).rounds
  have HG := Lib.hid hg
  have HK := Lib.hid hk
  clear hg hk
  by_cases h80 : (80 : Int) < (s.size : Int)
  · go_enter Tryd.func3, Tryd.ntmps3
    go_wp2_with (go_at_call 4; refine (gatepostlaw10_awake.calls true _ rfl).mono ?_; rintro e w1 ⟨rfl, hb1⟩)
    go_ret
    exact ⟨rfl, hb1⟩
  by_cases h81 : (80 : Int) < (sc.size : Int)
  · go_enter Tryd.func3, Tryd.ntmps3
    go_wp2_with (go_at_call 4; refine (gatepostlaw10_awake.calls true _ rfl).mono ?_; rintro e w1 ⟨rfl, hb1⟩)
    go_ret
    exact ⟨rfl, hb1⟩
  cases hp : portOf s sc with
  | some n =>
    rw [hp] at HK
    have HP := Lib.hid hp
    clear hp
    go_enter Tryd.func3, Tryd.ntmps3
    go_wp2_with fail
    refine (gatepostlaw10_awake.calls true _ rfl).mono ?_
    rintro e w1 ⟨rfl, hb1⟩
    have H1 := Lib.hid hb1
    clear hb1
    go_wp2_with fail
    refine (port_ok _ _ _ _ hs HP.out).mono ?_
    rintro e w2 ⟨rfl, hb2⟩
    have H2 := Lib.hid (below_step H1.out hb2)
    clear hb2
    go_wp2_with fail
    refine (gatepostref10_Port.calls k _ _ _ _ _ HK.out).mono ?_
    rintro e w3 ⟨rfl, hb3⟩
    have H3 := Lib.hid (below_step H2.out hb3)
    clear hb3
    go_wp2_with fail
    refine (code_nil _).mono ?_
    rintro e w4 ⟨rfl, hb4⟩
    have H4 := Lib.hid (below_step H3.out hb4)
    clear hb4
    go_wp2_with fail
    go_ret
    exact ⟨rfl, H4.out⟩
  | none =>
    rw [hp] at HK
    have HP := Lib.hid hp
    clear hp
    go_enter Tryd.func3, Tryd.ntmps3
    go_wp2_with fail
    refine (gatepostlaw10_awake.calls true _ rfl).mono ?_
    rintro e w1 ⟨rfl, hb1⟩
    have H1 := Lib.hid hb1
    clear hb1
    go_wp2_with fail
    refine (port_err _ _ _ hs HP.out).mono ?_
    rintro e w2 ⟨t, x, rfl, hc, hb2⟩
    have HC := Lib.hid hc
    have H2 := Lib.hid (below_step H1.out hb2)
    clear hb2 hc
    go_wp2_with fail
    refine (gatepostref10_Port.calls k _ _ _ _ _ HK.out).mono ?_
    rintro e w3 ⟨rfl, hb3⟩
    have HC3 := Lib.hid (HC.out.keep hb3)
    have H3 := Lib.hid (below_step H2.out hb3)
    clear hb3
    go_wp2_with fail
    refine (code_chain _ _ 4 _ HC3.out (HG.out.keep H3.out)).mono ?_
    rintro e w4 ⟨rfl, hb4⟩
    have H4 := Lib.hid (below_step H3.out hb4)
    clear hb4
    go_wp2_with fail
    go_ret
    exact ⟨rfl, H4.out⟩
end Go.Proofs.YtakbjmmelfcjeaaDoor
