/- What the document's Scalar, Same, tell, Adapt, least and weighted tell. -/
import Derived.Test.YtbeibfhnbnmocaaDoorPunyAwake
import Derived.Test.YtbeibfhnbnmocaaDoorPPunyx2
set_option linter.unusedVariables false
set_option linter.unusedSimpArgs false
set_option maxRecDepth 100000
namespace Go.Proofs.YtbeibfhnbnmocaaDoor
open Go.RowKit Go.Proofs.YtbeibfhnbnmocaaDoorW.PrintWords Go.Proofs.YtbeibfhnbnmocaaDoorW.PrintMore Go.Proofs.YtbeibfhnbnmocaaDoor.PPuny Go.Proofs.YtbeibfhnbnmocaaDoor.Plain Puny

theorem RowAt.toC {w : World} {A : Option Addr} {l : List Int} (h : RowAt iC 1 w A l) (hl : l.length ≤ 1000000) : Kd.C (Kd.int .i32) w A l.length l := by
  refine ⟨rfl, by omega, fun hn => ?_⟩
  obtain ⟨b, off, rfl, _, _⟩ := at32 h (List.getElem?_eq_getElem hn)
  refine ⟨_, rfl, fun j p hp => ⟨[.int .i32 p], rfl, rfl, fun i u hu => ?_⟩⟩
  cases i with
  | zero =>
    simp only [List.getElem?_cons_zero, Option.some.injEq] at hu
    subst hu
    obtain ⟨b', off', e, _, this⟩ := at32 h hp
    cases e
    rwa [show ((⟨b, off, none⟩ : Addr).add (j * (Kd.int .i32).sz + 0)) = ⟨b, off + j, none⟩ by
      show ((⟨b, off, none⟩ : Addr).add (j * 1 + 0)) = _
      unfold Addr.add; split <;> simp_all]
  | succ i => simp at hu
theorem OwnI.ofR {k : IntKind} {e : TypeId} {w : World} {B : Nat} {ok : Nat → Prop} {v : Value} {l : List Int} (h : Kd.R (Kd.int k) e w B ok v l) : OwnI w B e k v l := by
  have := Kd.own_of_R h
  simpa [OwnI, encs] using this
theorem scalar_calls (y : Int) (w : World) : Calls Tryd.prog 24 #[.int .i32 y] w fun e w' => e = .returned (.bool (Lib.validRune y)) ∧ Below w.heap.size w w' := by
  refine (gatepostref02_Scalar.calls y (Lib.validRune y) w ?_).mono ?_
  · unfold gatepostref02_Scalar.f Lib.validRune
    split
    · split
      · split
        · congr 1; rw [eq_comm, decide_eq_true_eq]; omega
        · congr 1; rw [decide_eq_decide]; omega
      · congr 1; rw [eq_comm, decide_eq_false_iff_not]; omega
    · congr 1; rw [eq_comm, decide_eq_false_iff_not]; omega
  · rintro e w' ⟨rfl, hd⟩
    exact ⟨rfl, hd.below⟩
theorem same_l0 (l : List Int) (hl : l.length ≤ 1000000) : ∀ (d i : Nat), l.length - i < d → i ≤ l.length → gatepostref02_Same.l0 d l l (i : Int) = some true
  | 0, i, h, _ => absurd h (Nat.not_lt_zero _)
  | d + 1, i, h, hi => by
    rw [gatepostref02_Same.l0]
    by_cases hlt : (i : Int) < (l.length : Int)
    · rw [if_pos hlt, if_pos (by omega), if_pos hlt, if_pos rfl, wrap_in (by omega) (by omega)]
      exact same_l0 l hl d (i + 1) (by omega) (by omega)
    · rw [if_neg hlt]
theorem same_calls {A A' : Option Addr} {c c' : Nat} {l : List Int} (w : World) (h : RowAt iC 1 w A l) (h' : RowAt iC 1 w A' l) (hl : l.length ≤ 1000000) (hc : l.length ≤ c) (hc' : l.length ≤ c') :
    Calls Tryd.prog 11 #[.slice A l.length c, .slice A' l.length c'] w fun e w' => e = .returned (.bool true) ∧ Below w.heap.size w w' := by
  refine (gatepostref02_Same.calls (l.length + 1) A c l A' c' l true w (RowAt.toC h hl) hc (RowAt.toC h' hl) hc' ?_).mono ?_
  · unfold gatepostref02_Same.f
    rw [if_pos rfl]
    exact same_l0 l hl _ 0 (by omega) (by omega)
  · rintro e w' ⟨rfl, hd⟩
    exact ⟨rfl, hd.below⟩
theorem thr_ref (k b : Nat) (hk : k ≤ 1152921504606846976) (hb : b ≤ 1152921504606846976) : gatepostref04_Threshold.f k b = some ((thr k b : Nat) : Int) := by
  unfold gatepostref04_Threshold.f thr
  rw [wrap_in (x := (b : Int) + 26) (by omega) (by omega), wrap_in (x := (k : Int) - b) (by omega) (by omega)]
  by_cases h1 : (k : Int) ≤ b
  · rw [if_pos h1]; congr 1; omega
  · rw [if_neg h1]
    by_cases h2 : (k : Int) ≥ b + 26
    · rw [if_pos h2]; congr 1; omega
    · rw [if_neg h2]; congr 1; omega
theorem digit_ref : ∀ d : Nat, d < 36 → gatepostref04_digit.f (d : Int) = some (((digit d).toNat : Nat) : Int) := by
  have : ∀ d : Fin 36, gatepostref04_digit.f ((d.val : Nat) : Int) = some (((digit d.val).toNat : Nat) : Int) := by decide +kernel
  exact fun d hd => this ⟨d, hd⟩
def digs8 (l : List Nat) : List Int := (l.map digit).map fun c => (c.toNat : Int)
theorem tell_l0 (b : Nat) (hb : b ≤ 1125899906842624) : ∀ (q k : Nat) (acc : List Int), q ≤ 1099511627776 → k + 36 * q ≤ 1125899906842624 → acc.length + q ≤ 1125899906842 → Ev (fun n => gatepostref04_tell.l0 n q b acc k) (acc ++ digs8 (tell q b k)) := by
  intro q k
  fun_induction tell q b k with
  | case1 q k h =>
    intro acc h1 h2 h3
    have ht := thr_le k b
    refine Ev.step (f := fun _ => some _) (fun n => ?_) (Ev.now _)
    simp only [gatepostref04_tell.l0]
    rw [thr_ref k b (by omega) (by omega)]
    simp only [Option.bind_some]
    rw [if_neg (by omega), digit_ref q (by omega)]
    simp only [Option.bind_some]
    rw [if_pos (by omega)]
    rfl
  | case2 q k h ih =>
    intro acc h1 h2 h3
    have t1 := thr_pos k b
    have t2 := thr_le k b
    generalize ht : thr k b = t at *
    have hd := Nat.div_le_self (q - t) (36 - t)
    have hm := Nat.mod_lt (q - t) (show 36 - t > 0 by omega)
    have e1 : ((q : Int) - (t : Int)).tmod (36 - (t : Int)) = (((q - t) % (36 - t) : Nat) : Int) := by
      rw [show (q : Int) - (t : Int) = ((q - t : Nat) : Int) by omega, show 36 - (t : Int) = ((36 - t : Nat) : Int) by omega, Int.tmod_eq_emod_of_nonneg (by omega)]
      rfl
    have e2 : ((q : Int) - (t : Int)).tdiv (36 - (t : Int)) = (((q - t) / (36 - t) : Nat) : Int) := by
      rw [show (q : Int) - (t : Int) = ((q - t : Nat) : Int) by omega, show 36 - (t : Int) = ((36 - t : Nat) : Int) by omega, Int.tdiv_eq_ediv_of_nonneg (by omega)]
      rfl
    generalize (q - t) % (36 - t) = r at *
    generalize (q - t) / (36 - t) = d at *
    have ih' := ih (acc ++ [(((digit (t + r)).toNat : Nat) : Int)]) (by omega) (by omega) (by rw [List.length_append, List.length_singleton]; omega)
    have hres : acc ++ digs8 ((t + r) :: tell d b (k + 36)) = (acc ++ [(((digit (t + r)).toNat : Nat) : Int)]) ++ digs8 (tell d b (k + 36)) := by
      simp [digs8]
    rw [hres]
    refine Ev.step (f := fun n => gatepostref04_tell.l0 n (d : Int) b (acc ++ [(((digit (t + r)).toNat : Nat) : Int)]) ((k + 36 : Nat) : Int)) (fun n => ?_) ih'
    simp only [gatepostref04_tell.l0]
    rw [thr_ref k b (by omega) (by omega), ht]
    simp only [Option.bind_some]
    rw [if_pos (by omega), wrap_in (x := 36 - (t : Int)) (by omega) (by omega), if_neg (by omega), wrap_in (x := (q : Int) - t) (by omega) (by omega), e1, e2, wrap_in (x := (t : Int) + (r : Int)) (by omega) (by omega), show (t : Int) + (r : Int) = ((t + r : Nat) : Int) by omega, digit_ref (t + r) (by omega)]
    simp only [Option.bind_some]
    rw [if_pos (by omega), wrap_in (x := (d : Int)) (by omega) (by omega), wrap_in (x := (k : Int) + 36) (by omega) (by omega)]
    rfl
theorem tell_calls (q b : Nat) (hq : q ≤ 1099511627776) (hb : b ≤ 1125899906842624) (w : World) :
    Calls Tryd.prog 26 #[.int .i64 q, .int .i64 b] w fun e w' => ∃ v, e = .returned v ∧ OwnI w' w.heap.size 5 .u8 v (digs8 (tell q b 36)) ∧ Below w.heap.size w w' := by
  obtain ⟨k, hk⟩ := tell_l0 b hb q 36 [] hq (by omega) (by show 0 + q ≤ _; omega)
  refine (gatepostref04_tell.calls k q b (digs8 (tell q b 36)) w (hk k (Nat.le_refl _))).mono ?_
  rintro e w' ⟨v, rfl, hr, hb⟩
  exact ⟨v, rfl, OwnI.ofR hr, hb⟩
theorem adapt_ref_l0 : ∀ (d k : Nat), d ≤ 1125899906842624 → k + 2 * d ≤ 4503599627370496 → Ev (fun n => gatepostref04_Adapt.l0 n d k) (adaptLoop d k : Nat) := by
  intro d k
  fun_induction adaptLoop d k with
  | case1 d k h ih =>
    intro h1 h2
    refine Ev.step (f := fun n => gatepostref04_Adapt.l0 n ((d / 35 : Nat) : Int) ((k + 36 : Nat) : Int)) (fun n => ?_) (ih (by omega) (by omega))
    simp only [gatepostref04_Adapt.l0]
    rw [if_pos (by omega), Int.tdiv_eq_ediv_of_nonneg (by omega), wrap_in (by omega) (by omega), wrap_in (by omega) (by omega)]
    rfl
  | case2 d k h =>
    intro h1 h2
    refine Ev.step (f := fun _ => some _) (fun n => ?_) (Ev.now _)
    simp only [gatepostref04_Adapt.l0]
    have e1 : wrap64 ((d : Int) + 38) = ((d + 38 : Nat) : Int) := by rw [wrap_in (by omega) (by omega)]; rfl
    have e2 : wrap64 (36 * (d : Int)) = ((36 * d : Nat) : Int) := by rw [wrap_in (by omega) (by omega)]; omega
    have hle : 36 * d / (d + 38) ≤ 36 := by
      apply Nat.div_le_of_le_mul
      rw [Nat.mul_comm]
      exact Nat.mul_le_mul_right 36 (by omega)
    rw [if_neg (by omega), e1, e2, if_neg (by omega), Int.tdiv_eq_ediv_of_nonneg (by omega), ← Int.natCast_ediv]
    generalize 36 * d / (d + 38) = Y at hle ⊢
    rw [wrap_in (x := (Y : Int)) (by omega) (by omega), wrap_in (by omega) (by omega)]
    rfl
theorem adapt_ref_calls (d m : Nat) (once : Bool) (hd : d ≤ 1099511627776) (hm : 0 < m) (hm2 : m ≤ 1000000) (w : World) : Calls Tryd.prog 27 #[.int .i64 d, .int .i64 m, .bool once] w fun e w' => e = .returned (.int .i64 (adapt d m once : Nat)) ∧ Below w.heap.size w w' := by
  have hev : Ev (fun n => gatepostref04_Adapt.f n d m once) (adapt d m once : Nat) := by
    have key : ∀ x : Nat, x ≤ d → Ev (fun n => gatepostref04_Adapt.j0 n m x) (adaptLoop (x + x / m) 0 : Nat) := by
      intro x hx
      have hxm : x / m ≤ x := Nat.div_le_self _ _
      have ht : Int.tdiv (x : Int) (m : Int) = ((x / m : Nat) : Int) := by rw [Int.tdiv_eq_ediv_of_nonneg (by omega), Int.natCast_ediv]
      have hm0 : ¬ (m : Int) = 0 := by omega
      generalize x / m = Y at hxm ht ⊢
      refine Ev.step (f := fun n => gatepostref04_Adapt.l0 n ((x + Y : Nat) : Int) ((0 : Nat) : Int)) (fun n => ?_) (adapt_ref_l0 _ _ (by omega) (by omega))
      simp only [gatepostref04_Adapt.j0]
      rw [if_neg hm0, ht, wrap_in (x := (Y : Int)) (by omega) (by omega), wrap_in (by omega) (by omega)]
      rfl
    unfold gatepostref04_Adapt.f
    cases once
    · refine evN (by decide) ?_
      have := key (d / 2) (by omega)
      rw [Int.tdiv_eq_ediv_of_nonneg (by omega), wrap_in (by omega) (by omega)]
      exact this
    · refine evP rfl ?_
      have := key (d / 700) (by omega)
      rw [Int.tdiv_eq_ediv_of_nonneg (by omega), wrap_in (by omega) (by omega)]
      exact this
  obtain ⟨k, hk⟩ := hev
  refine (gatepostref04_Adapt.calls k d m once _ w (hk k (Nat.le_refl _))).mono ?_
  rintro e w' ⟨rfl, hd⟩
  exact ⟨rfl, hd.below⟩
theorem least_l0 (l : List Nat) (m : Nat) (hl : l.length ≤ 1000000) (hs : ∀ c ∈ l, c ≤ 1114111) : ∀ (d i acc : Nat), l.length - i < d → i ≤ l.length →
    gatepostref04_least.l0 d (l.map fun n : Nat => (n : Int)) m acc i = some (((l.drop i).foldl (fun m' c => if m ≤ c ∧ c < m' then c else m') acc : Nat) : Int)
  | 0, i, _, h, _ => absurd h (Nat.not_lt_zero _)
  | d + 1, i, acc, h, hi => by
    rw [gatepostref04_least.l0, List.length_map]
    by_cases hlt : i < l.length
    · have hrd : rd (l.map fun n : Nat => (n : Int)) (i : Int) = ((l[i]'hlt : Nat) : Int) := by
        unfold rd
        rw [show ((i : Int)).toNat = i by omega, List.getD_eq_getElem?_getD, List.getElem?_map, List.getElem?_eq_getElem hlt]
        rfl
      have hx := hs _ (List.getElem_mem hlt)
      have ih := fun acc => least_l0 l m hl hs d (i + 1) acc (by omega) (by omega)
      rw [List.drop_eq_getElem_cons hlt, List.foldl_cons]
      generalize l[i]'hlt = x at hrd hx ⊢
      rw [if_pos (by omega), if_pos (by omega), hrd, wrap_in (x := (x : Int)) (by omega) (by omega), wrap_in (x := (i : Int) + 1) (by omega) (by omega)]
      by_cases h1 : (x : Int) ≥ (m : Int)
      · rw [if_pos h1]
        by_cases h2 : (x : Int) < (acc : Int)
        · rw [if_pos h2, if_pos ⟨by omega, by omega⟩]
          exact ih x
        · rw [if_neg h2, if_neg (by omega)]
          exact ih acc
      · rw [if_neg h1, if_neg (by omega)]
        exact ih acc
    · rw [if_neg (by omega), List.drop_eq_nil_of_le (by omega)]
      rfl
theorem least_calls {A : Option Addr} {c : Nat} (l : List Nat) (m : Nat) (w : World) (h : RowAt iC 1 w A (l.map fun n : Nat => (n : Int))) (hl : l.length ≤ 100000) (hc : l.length ≤ c) (hs : ∀ c ∈ l, c ≤ 1114111) :
    Calls Tryd.prog 25 #[.slice A l.length c, .int .i64 m] w fun e w' => e = .returned (.int .i64 (least l m : Nat)) ∧ Below w.heap.size w w' := by
  have hc1 := RowAt.toC h (by rw [List.length_map]; omega)
  have := gatepostref04_least.calls (l.length + 1) A c (l.map fun n : Nat => (n : Int)) m (least l m : Nat) w hc1 (by rw [List.length_map]; exact hc) (by
    unfold gatepostref04_least.f least
    have := least_l0 l m (by omega) hs (l.length + 1) 0 1114112 (by omega) (by omega)
    rw [List.drop_zero] at this
    exact this)
  rw [List.length_map] at this
  refine this.mono ?_
  rintro e w' ⟨rfl, hd⟩
  exact ⟨rfl, hd.below⟩
end Go.Proofs.YtbeibfhnbnmocaaDoor
