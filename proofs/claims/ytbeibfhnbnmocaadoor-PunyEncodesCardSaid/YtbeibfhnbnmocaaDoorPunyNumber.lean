/- The program's threshold, adapt and number: what they tell. -/
import Derived.Test.YtbeibfhnbnmocaaDoorPunyPure
import Derived.Test.YtbeibfhnbnmocaaDoorPunyBuilder
import Derived.Test.YtbeibfhnbnmocaaDoorPureLib
import Derived.Test.YtbeibfhnbnmocaaDoorBase
import Derived.Test.YtbeibfhnbnmocaaDoorPPunyx2
import Derived.Deep.LoopGhost
import Derived.Lib.Hide
set_option linter.unusedVariables false
set_option linter.unusedSimpArgs false
set_option maxRecDepth 100000
namespace Go.Proofs.YtbeibfhnbnmocaaDoor
open Go.RowKit Go.Proofs.YtbeibfhnbnmocaaDoorW.PrintWords Go.Proofs.YtbeibfhnbnmocaaDoorW.PrintMore Go.Proofs.YtbeibfhnbnmocaaDoor.PPuny Go.Proofs.YtbeibfhnbnmocaaDoor.Plain Puny

theorem evP {α : Type} {c : Prop} [Decidable c] {f g : Nat → Option α} {r : α} (h : c) (k : Ev f r) : Ev (fun n => if c then f n else g n) r := Ev.ite (fun _ => k) (fun e => absurd h e)
theorem evN {α : Type} {c : Prop} [Decidable c] {f g : Nat → Option α} {r : α} (h : ¬ c) (k : Ev g r) : Ev (fun n => if c then f n else g n) r := Ev.ite (fun e => absurd e h) (fun _ => k)
theorem threshold_calls (k b : Nat) (hk : k ≤ 1152921504606846976) (hb : b ≤ 1152921504606846976) (w : World) : Calls Tryd.prog 42 #[.int .i64 k, .int .i64 b] w fun e w' => e = .returned (.int .i64 (thr k b : Nat)) ∧ Below w.heap.size w w' := by
  refine puny_threshold.calls k b (thr k b : Nat) w ?_
  unfold puny_threshold.f
  congr 1
  rw [wrap_in (by omega) (by omega)]
  unfold mn mx thr
  by_cases h1 : (k : Int) - b < 1
  · rw [if_pos h1, if_neg (by omega)]
    omega
  · rw [if_neg h1]
    by_cases h2 : (26 : Int) < k - b
    · rw [if_pos h2]; omega
    · rw [if_neg h2]; omega
theorem adaptLoop_le : ∀ (d k : Nat), adaptLoop d k ≤ k + 36 + 2 * d := by
  intro d k
  fun_induction adaptLoop d k with
  | case1 d k h ih => omega
  | case2 d k h =>
    have : 36 * d / (d + 38) ≤ 36 := by
      apply Nat.div_le_of_le_mul
      rw [Nat.mul_comm]
      exact Nat.mul_le_mul_right 36 (by omega)
    omega
theorem adapt_le (d m : Nat) (once : Bool) : adapt d m once ≤ 36 + 4 * d := by
  unfold adapt
  have h1 := adaptLoop_le ((if once then d / 700 else d / 2) + (if once then d / 700 else d / 2) / m) 0
  have h2 : (if once then d / 700 else d / 2) ≤ d := by split <;> omega
  have h3 : (if once then d / 700 else d / 2) / m ≤ (if once then d / 700 else d / 2) := Nat.div_le_self _ _
  show adaptLoop _ 0 ≤ _
  omega
theorem adapt_l0 : ∀ (d k : Nat), d ≤ 1125899906842624 → k + 2 * d ≤ 4503599627370496 → Ev (fun n => puny_adapt.l0 n d k) (adaptLoop d k : Nat) := by
  intro d k
  fun_induction adaptLoop d k with
  | case1 d k h ih =>
    intro h1 h2
    refine Ev.step (f := fun n => puny_adapt.l0 n ((d / 35 : Nat) : Int) ((k + 36 : Nat) : Int)) (fun n => ?_) (ih (by omega) (by omega))
    simp only [puny_adapt.l0]
    rw [if_pos (by omega), Int.tdiv_eq_ediv_of_nonneg (by omega), wrap_in (by omega) (by omega), wrap_in (by omega) (by omega)]
    rfl
  | case2 d k h =>
    intro h1 h2
    refine Ev.step (f := fun _ => some _) (fun n => ?_) (Ev.now _)
    simp only [puny_adapt.l0]
    have e1 : wrap64 ((d : Int) + 38) = ((d + 38 : Nat) : Int) := by rw [wrap_in (by omega) (by omega)]; rfl
    have e2 : wrap64 (36 * (d : Int)) = ((36 * d : Nat) : Int) := by rw [wrap_in (by omega) (by omega)]; omega
    have hle : 36 * d / (d + 38) ≤ 36 := by
      apply Nat.div_le_of_le_mul
      rw [Nat.mul_comm]
      exact Nat.mul_le_mul_right 36 (by omega)
    rw [if_neg (by omega), e1, e2, if_neg (by omega), Int.tdiv_eq_ediv_of_nonneg (by omega), ← Int.natCast_ediv]
    generalize 36 * d / (d + 38) = Y at hle ⊢
    rw [wrap_in (x := (Y : Int)) (by omega) (by omega), wrap_in (by omega) (by omega)]
    rfl
theorem adapt_calls (d m : Nat) (once : Bool) (hd : d ≤ 1099511627776) (hm : 0 < m) (hm2 : m ≤ 1000000) (w : World) : Calls Tryd.prog 22 #[.int .i64 d, .int .i64 m, .bool once] w fun e w' => e = .returned (.int .i64 (adapt d m once : Nat)) ∧ Below w.heap.size w w' := by
  have hev : Ev (fun n => puny_adapt.f n d m once) (adapt d m once : Nat) := by
    have key : ∀ x : Nat, x ≤ d → Ev (fun n => puny_adapt.j0 n x m) (adaptLoop (x + x / m) 0 : Nat) := by
      intro x hx
      have hxm : x / m ≤ x := Nat.div_le_self _ _
      have ht : Int.tdiv (x : Int) (m : Int) = ((x / m : Nat) : Int) := by rw [Int.tdiv_eq_ediv_of_nonneg (by omega), Int.natCast_ediv]
      have hm0 : ¬ (m : Int) = 0 := by omega
      generalize x / m = Y at hxm ht ⊢
      refine Ev.step (f := fun n => puny_adapt.l0 n ((x + Y : Nat) : Int) ((0 : Nat) : Int)) (fun n => ?_) (adapt_l0 _ _ (by omega) (by omega))
      simp only [puny_adapt.j0]
      rw [if_neg hm0, ht, wrap_in (x := (Y : Int)) (by omega) (by omega), wrap_in (by omega) (by omega)]
      rfl
    unfold puny_adapt.f
    cases once
    · refine evN (by decide) ?_
      have := key (d / 2) (by omega)
      rw [Int.tdiv_eq_ediv_of_nonneg (by omega), wrap_in (by omega) (by omega)]
      exact this
    · refine evP rfl ?_
      have := key (d / 700) (by omega)
      rw [Int.tdiv_eq_ediv_of_nonneg (by omega), wrap_in (by omega) (by omega)]
      exact this
  obtain ⟨k, hk⟩ := hev
  refine (puny_adapt.calls k d m once _ w (hk k (Nat.le_refl _))).mono ?_
  rintro e w' ⟨rfl, hd⟩
  exact ⟨rfl, hd.below⟩
theorem digits_at (d : Nat) (h : d < 36) : ∀ w : World, (Instr.index 9 (.string ⟨#[97, 98, 99, 100, 101, 102, 103, 104, 105, 106, 107, 108, 109, 110, 111, 112, 113, 114, 115, 116, 117, 118, 119, 120, 121, 122, 48, 49, 50, 51, 52, 53, 54, 55, 56, 57]⟩) (.int .i64 (d : Int))).run Tryd.prog w = .ok (.int .u8 (digit d).toNat) w := by
  intro w
  rcases (by omega : d = 0 ∨ d = 1 ∨ d = 2 ∨ d = 3 ∨ d = 4 ∨ d = 5 ∨ d = 6 ∨ d = 7 ∨ d = 8 ∨ d = 9 ∨ d = 10 ∨ d = 11 ∨ d = 12 ∨ d = 13 ∨ d = 14 ∨ d = 15 ∨ d = 16 ∨ d = 17 ∨ d = 18 ∨ d = 19 ∨ d = 20 ∨ d = 21 ∨ d = 22 ∨ d = 23 ∨ d = 24 ∨ d = 25 ∨ d = 26 ∨ d = 27 ∨ d = 28 ∨ d = 29 ∨ d = 30 ∨ d = 31 ∨ d = 32 ∨ d = 33 ∨ d = 34 ∨ d = 35) with rfl | rfl | rfl | rfl | rfl | rfl | rfl | rfl | rfl | rfl | rfl | rfl | rfl | rfl | rfl | rfl | rfl | rfl | rfl | rfl | rfl | rfl | rfl | rfl | rfl | rfl | rfl | rfl | rfl | rfl | rfl | rfl | rfl | rfl | rfl | rfl
  all_goals kernel_rfl

theorem tell_pow (q b k : Nat) : ∀ n, n < (tell q b k).length → 2 ^ n ≤ q + 1 := by
  fun_induction tell q b k with
  | case1 q k h => intro n hn; simp at hn; subst hn; omega
  | case2 q k h ih =>
    intro n hn
    have h1 := thr_pos k b
    have h2 := thr_le k b
    have h3 : 2 * ((q - thr k b) / (36 - thr k b)) ≤ q - thr k b := by
      have := Nat.div_mul_le_self (q - thr k b) (36 - thr k b)
      have h4 : (q - thr k b) / (36 - thr k b) * 2 ≤ (q - thr k b) / (36 - thr k b) * (36 - thr k b) := Nat.mul_le_mul_left _ (by omega)
      omega
    cases n with
    | zero => omega
    | succ n =>
      have := ih n (by simp at hn; omega)
      rw [Nat.pow_succ]
      omega
theorem tell_len (q b k : Nat) (hq : q ≤ 1099511627776) : (tell q b k).length ≤ 41 := by
  apply Nat.le_of_not_lt
  intro h
  have := tell_pow q b k 41 h
  omega
set_option maxHeartbeats 4000000 in
theorem number_calls (q b : Nat) (hq : q ≤ 1099511627776) (hb : b ≤ 1125899906842624) (w : World) :
    Calls Tryd.prog 21 #[.int .i64 q, .int .i64 b] w fun e w' => e = .returned (.string ⟨((tell q b 36).map digit).toArray⟩) ∧ Below w.heap.size w w' := by
  have HN := Lib.hid (bld_new w)
  have HB := Lib.hid ((Below.refl w.heap.size w).alloc (Nat.le_refl _) (.cells #[.pointer none, .slice none 0 0] 46))
  have HT := Lib.hid (fun (k : Nat) (hk : k ≤ 1152921504606846976) W => threshold_calls k b hk (by omega) W)
  have HLEN := Lib.hid (tell_len q b 36 hq)
  have HQ := Lib.hid hq
  go_enter Tryd.func21, Tryd.ntmps21
  go_wp2
  generalize w.alloc (.cells #[.pointer none, .slice none 0 0] 46) = W0 at HN HB ⊢
  go_loopg [0, 6] q (fun n v0 v6 w' => Hid (∃ (q' k' : Nat) (out : List UInt8), v0 = .int .i64 q' ∧ v6 = .int .i64 k' ∧ n = q' ∧ k' + 36 * q' ≤ 36 + 36 * q ∧ out ++ (tell q' b k').map digit = (tell q b 36).map digit ∧ Bld w.heap.size w.heap.size out w' ∧ Below w.heap.size w w'))
  case atStart => exact ⟨q, 36, [], rfl, rfl, rfl, Nat.le_refl _, rfl, HN.out, HB.out⟩
  case round =>
    obtain ⟨q', k', out, rfl, rfl, hn, hk, ho, hb1, hbe⟩ := hrel.out
    clear hrel
    have HO := Lib.hid ho
    have HBL := Lib.hid hb1
    have HBE := Lib.hid hbe
    have HNM := Lib.hid hn
    have hq2 := HQ.out
    have hq' : q' ≤ 1099511627776 + 1 := by omega
    have HLO := Lib.hid (show out.length ≤ 41 by
      have := congrArg List.length HO.out
      rw [List.length_append, List.length_map, List.length_map] at this
      have := HLEN.out
      omega)
    have HT1 := Lib.hid (HT.out k' (by omega) wr)
    have HTELL := Lib.hid (show tell q' b k' = if h : q' < thr k' b then [q'] else (thr k' b + (q' - thr k' b) % (36 - thr k' b)) :: tell ((q' - thr k' b) / (36 - thr k' b)) b (k' + 36) from by rw [tell])
    have ht1 := thr_pos k' b
    have ht2 := thr_le k' b
    generalize thr k' b = t at HT1 HTELL ht1 ht2
    clear ho hb1 hbe hn HN HB
    go_wp2_with fail
    refine HT1.out.mono ?_
    rintro e w1 ⟨rfl, hb⟩
    have HBL1 := Lib.hid (bld_keep HBL.out hb)
    have HBE1 := Lib.hid (belowOn HBE.out HBE.out.size hb)
    clear hb HBL HBE HT1
    by_cases hlt : q' < t
    · have hd := digits_at q' (by omega)
      have HW := Lib.hid (bld_byte (digit q') HBL1.out (by have := HLO.out; omega) HBE1.out.size)
      have HD := Lib.hid (show (out ++ [digit q']) = (tell q b 36).map digit by rw [← HO.out, HTELL.out, dif_pos hlt]; rfl)
      have hlt' : (q' : Int) < (t : Int) := by omega
      go_wp2_with fail
      refine HW.out.mono ?_
      rintro e w2 ⟨rfl, hb2, hb⟩
      have HS := Lib.hid (bld_done hb2 (Nat.le_trans HBE1.out.size hb.size))
      have HBE2 := Lib.hid (HBE1.out.trans hb)
      rw [HD.out] at HS
      clear hb hb2 HBE1 HBL1 HW
      go_wp2_with fail
      refine HS.out.mono ?_
      rintro e w3 ⟨rfl, hb⟩
      have HBE3 := Lib.hid (HBE2.out.trans hb)
      clear hb HBE2
      go_wp2_with fail
      go_ret
      exact ⟨rfl, HBE3.out⟩
    · have hlt' : ¬ (q' : Int) < (t : Int) := by omega
      have hm := Nat.mod_lt (q' - t) (show 36 - t > 0 by omega)
      have hdm := Nat.div_add_mod (q' - t) (36 - t)
      obtain ⟨r, hr⟩ : ∃ r, r = (q' - t) % (36 - t) := ⟨_, rfl⟩
      obtain ⟨d, hd⟩ : ∃ d, d = (q' - t) / (36 - t) := ⟨_, rfl⟩
      have HD := Lib.hid (show tell q' b k' = (t + r) :: tell d b (k' + 36) by rw [HTELL.out, dif_neg hlt, hr, hd])
      have w1' : IntKind.i64.wrap ((q' : Int) - (t : Int)) = (q' : Int) - (t : Int) := by rw [IntKind.wrap_i64]; omega
      have w2' : IntKind.i64.wrap (36 - (t : Int)) = 36 - (t : Int) := by rw [IntKind.wrap_i64]; omega
      have hz : ¬ (36 - (t : Int) = 0) := by omega
      have e1 : ((q' : Int) - (t : Int)).tmod (36 - (t : Int)) = (r : Int) := by
        rw [show (q' : Int) - (t : Int) = ((q' - t : Nat) : Int) by omega, show 36 - (t : Int) = ((36 - t : Nat) : Int) by omega, Int.tmod_eq_emod_of_nonneg (by omega), hr]
        rfl
      have e2 : ((q' : Int) - (t : Int)).tdiv (36 - (t : Int)) = (d : Int) := by
        rw [show (q' : Int) - (t : Int) = ((q' - t : Nat) : Int) by omega, show 36 - (t : Int) = ((36 - t : Nat) : Int) by omega, Int.tdiv_eq_ediv_of_nonneg (by omega), hd]
        rfl
      have w3 : IntKind.i64.wrap ((t : Int) + (r : Int)) = (t : Int) + (r : Int) := by rw [IntKind.wrap_i64]; omega
      have hdl : d < q' := by rw [hd]; have := Nat.div_le_self (q' - t) (36 - t); omega
      have w4 : IntKind.i64.wrap (d : Int) = (d : Int) := by rw [IntKind.wrap_i64]; omega
      have w5 : IntKind.i64.wrap ((k' : Int) + 36) = (k' : Int) + 36 := by rw [IntKind.wrap_i64]; omega
      have hix := digits_at (t + r) (by omega)
      rw [show ((t + r : Nat) : Int) = (t : Int) + (r : Int) by omega] at hix
      have HW := Lib.hid (bld_byte (digit (t + r)) HBL1.out (by have := HLO.out; omega) HBE1.out.size)
      have HDL := Lib.hid hdl
      clear hr hd hdm hm hdl
      go_wp2_with fail
      refine HW.out.mono ?_
      rintro e w2 ⟨rfl, hb2, hb⟩
      have HBL2 := Lib.hid hb2
      have HBE2 := Lib.hid (HBE1.out.trans hb)
      clear hb hb2 HBE1 HBL1 HW
      go_wp2_with fail
      go_roundg d
      case measure => have := HNM.out; have := HDL.out; omega
      case rel => exact ⟨d, k' + 36, out ++ [digit (t + r)], rfl, by first | rfl | simp, rfl, by have := HDL.out; omega, by rw [← HO.out, HD.out]; simp, HBL2.out, HBE2.out⟩
end Go.Proofs.YtbeibfhnbnmocaaDoor
