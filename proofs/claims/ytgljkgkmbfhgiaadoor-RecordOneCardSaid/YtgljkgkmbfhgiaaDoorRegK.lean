/- A region that draws its order, walked on behind it: the act is its slots stored in turn. -/
import Derived.Test.YtgljkgkmbfhgiaaDoorRegI
set_option linter.unusedVariables false
set_option linter.unusedSimpArgs false
namespace Go.Proofs.YtgljkgkmbfhgiaaDoor
open Go.RowKit

section
variable {P : Program} {md : Region.Mode} {ops : Array Oper} {Q : Exit → Act → World → Prop} {sps : List Sp} {a0 : Act} {w0 : World}
theorem wpAny_RIK (hf : fineOps md ops a0.tmps.size = true) (hlen : sps.length = ops.size) (hstep : StepRI P md ops Q sps a0 w0)
    (hend : ∀ (a : Act) (w : World), (∀ (i : Nat) (o : Oper) (d : Tmp) (sp : Sp), ops[i]? = some o → o.dst = some d → sps[i]? = some sp → sp.ok w (a.tmps.getD d undef)) → a.defers = a0.defers → Below w0.heap.size w0 w → a.tmps.size = a0.tmps.size → (∀ t : Tmp, (∀ (i : Nat) (o : Oper), ops[i]? = some o → o.dst ≠ some t) → a.tmps.getD t undef = a0.tmps.getD t undef) → Q .normal a w) :
    ∀ (fuel : Nat) (listed : Array Bool) (a : Act) (w : World), RI ops sps a0 w0 listed a w → leftN listed ≤ fuel → wpAny P md ops Q fuel listed a w := by
  obtain ⟨f1, f2, f3⟩ := fine_spec hf
  have hall : ∀ listed a w, RI ops sps a0 w0 listed a w → Region.ready md ops listed = [] → Q .normal a w := by
    intro listed a w h hr
    have hl : ∀ i, i < listed.size → listed.getD i true = true := by
      intro i
      induction i using Nat.strongRecOn with
      | _ i ih =>
        intro hi
        cases hc : listed.getD i true with
        | true => rfl
        | false =>
          obtain ⟨o, ho⟩ : ∃ o, ops[i]? = some o := ⟨ops[i]'(by rw [← h.size]; exact hi), Array.getElem?_eq_getElem _⟩
          have : i ∈ Region.ready md ops listed := mem_ready.2 ⟨hc, o, ho, fun e he hb => by
            have hlt := f3 i o ho e he hb
            have h1 := ih e.on hlt (by omega)
            have h2 : e.on < listed.size := by omega
            rw [Array.getD_eq_getD_getElem?, Array.getElem?_eq_getElem h2] at h1 ⊢
            exact h1⟩
          rw [hr] at this
          cases this
    refine hend a w (fun i o d sp ho hd hs => h.got i o d sp ho hd hs ?_) h.defers h.be h.tsz h.kept
    have hi : i < listed.size := by rw [h.size]; exact (Array.getElem?_eq_some_iff.1 ho).1
    have h1 := hl i hi
    rw [Array.getD_eq_getD_getElem?, Array.getElem?_eq_getElem hi] at h1 ⊢
    exact h1
  intro fuel
  induction fuel with
  | zero =>
    intro listed a w h hl
    have hr : Region.ready md ops listed = [] := by
      cases hr : Region.ready md ops listed with
      | nil => rfl
      | cons i rest =>
        have hm : i ∈ Region.ready md ops listed := by rw [hr]; exact List.mem_cons_self ..
        obtain ⟨h1, o, ho, _⟩ := mem_ready.1 hm
        have h2 := left_zero (Nat.le_zero.1 hl) i (by rw [h.size]; exact (Array.getElem?_eq_some_iff.1 ho).1)
        rw [h1] at h2
        cases h2
    exact ⟨hr, hall listed a w h hr⟩
  | succ fuel ih =>
    intro listed a w h hl
    refine ⟨hall listed a w h, fun i hi => ?_⟩
    obtain ⟨h1, o, ho, hdeps⟩ := mem_ready.1 hi
    have hib : i < ops.size := (Array.getElem?_eq_some_iff.1 ho).1
    obtain ⟨sp, hsp⟩ : ∃ sp, sps[i]? = some sp := ⟨sps[i]'(by omega), List.getElem?_eq_getElem _⟩
    obtain ⟨d, hd, hdl⟩ := f1 i o ho
    refine wpOp_mono (fun a' w' hh => ?_) (hstep i o sp ho hsp a w h.be h.tsz h.kept fun j oj d' sj hj hdj hsj hany => h.got j oj d' sj hj hdj hsj ?_)
    · obtain ⟨v, rfl, hv, hb⟩ := hh
      refine ih _ _ _ ⟨belowOn h.be h.be.size hb, by rw [Array.size_setIfInBounds]; exact h.size, ?_, ?_, fun k ok' dk sk hk hdk hsk hlk => ?_, fun t ht => ?_⟩ ?_
      · rw [hd]; simp [Act.put, h.tsz]
      · rw [hd]; exact h.defers
      · rw [hd]
        show sk.ok w' ((a.tmps.setIfInBounds d v).getD dk undef)
        rw [getD_set _ _ _ _ _ (by rw [h.tsz]; exact hdl)]
        by_cases e : i = k
        · subst e
          rw [ho] at hk
          obtain rfl := Option.some.inj hk
          rw [hd] at hdk
          obtain rfl := Option.some.inj hdk
          rw [hsp] at hsk
          obtain rfl := Option.some.inj hsk
          rw [if_pos rfl]
          exact hv
        · rw [if_neg (fun e2 => e (f2 i k o ok' ho hk (by rw [hd, hdk, e2])))]
          rw [getD_set _ _ _ _ _ (by rw [h.size]; exact hib), if_neg e] at hlk
          exact (h.got k ok' dk sk hk hdk hsk hlk).keep hb
      · rw [hd]
        show (a.tmps.setIfInBounds d v).getD t undef = _
        rw [getD_set _ _ _ _ _ (by rw [h.tsz]; exact hdl), if_neg (fun e => ht i o ho (by rw [hd, e]))]
        exact h.kept t ht
      · have := left_set h1
        omega
    · obtain ⟨e, he, hon⟩ : ∃ e ∈ o.after, Region.binds md e = true ∧ e.on = j := by
        rw [← Array.any_toList] at hany
        obtain ⟨e, he, h⟩ := List.any_eq_true.1 hany
        have he := Array.mem_toList_iff.1 he
        simp only [Bool.and_eq_true, beq_iff_eq] at h
        exact ⟨e, he, h⟩
      rw [← hon.2]
      exact hdeps e he hon.1
theorem wp_region_RIK {id : Nat} {a : Act} {w : World} (sps : List Sp) (hm : P.follows .mixedOrders = true) (hf : fineOps .any ops a.tmps.size = true) (hlen : sps.length = ops.size) (hstep : StepRI P .any ops Q sps a w)
    (hend : ∀ (a' : Act) (w' : World), (∀ (i : Nat) (o : Oper) (d : Tmp) (sp : Sp), ops[i]? = some o → o.dst = some d → sps[i]? = some sp → sp.ok w' (a'.tmps.getD d undef)) → a'.defers = a.defers → Below w.heap.size w w' → a'.tmps.size = a.tmps.size → (∀ t : Tmp, (∀ (i : Nat) (o : Oper), ops[i]? = some o → o.dst ≠ some t) → a'.tmps.getD t undef = a.tmps.getD t undef) → Q .normal a' w') : (Code.region id ops true).wp P Q a w :=
  wp_region_any hm (wpAny_RIK hf hlen hstep hend _ _ _ _ ⟨(Below.refl _ _).drew, by simp, rfl, rfl, fun i o d sp ho hd hs hl => by
    have hi := (Array.getElem?_eq_some_iff.1 ho).1
    simp [Array.getD_eq_getD_getElem?, hi] at hl, fun t ht => rfl⟩ (by
    unfold leftN
    exact Nat.le_trans List.countP_le_length (by simp)))
end
theorem puts_size (vs : List (Tmp × Value)) : ∀ a0 : Act, (vs.foldl (fun b p => b.put (some p.1) p.2) a0).tmps.size = a0.tmps.size ∧ (vs.foldl (fun b p => b.put (some p.1) p.2) a0).defers = a0.defers := by
  induction vs with
  | nil => exact fun _ => ⟨rfl, rfl⟩
  | cons p vs ih =>
    intro a0
    obtain ⟨h1, h2⟩ := ih (a0.put (some p.1) p.2)
    exact ⟨h1.trans (by simp [Act.put]), h2.trans (by simp [Act.put])⟩
theorem puts_out (vs : List (Tmp × Value)) : ∀ (a0 : Act) (t : Tmp), (∀ p ∈ vs, p.1 < a0.tmps.size) → t ∉ vs.map (·.1) → (vs.foldl (fun b p => b.put (some p.1) p.2) a0).tmps.getD t undef = a0.tmps.getD t undef := by
  induction vs with
  | nil => exact fun _ _ _ _ => rfl
  | cons p vs ih =>
    intro a0 t hlt ht
    simp only [List.map_cons, List.mem_cons, not_or] at ht
    rw [List.foldl_cons, ih _ t (fun q hq => by simpa [Act.put] using hlt q (List.mem_cons_of_mem _ hq)) ht.2]
    show (a0.tmps.setIfInBounds p.1 p.2).getD t undef = _
    rw [getD_set _ _ _ _ _ (hlt p (List.mem_cons_self ..)), if_neg (fun e => ht.1 e.symm)]
theorem puts_in (vs : List (Tmp × Value)) : ∀ (a0 : Act), (∀ p ∈ vs, p.1 < a0.tmps.size) → (vs.map (·.1)).Nodup → ∀ p ∈ vs, (vs.foldl (fun b p => b.put (some p.1) p.2) a0).tmps.getD p.1 undef = p.2 := by
  induction vs with
  | nil => exact fun _ _ _ p hp => by cases hp
  | cons q vs ih =>
    intro a0 hlt hnd p hp
    rw [List.map_cons, List.nodup_cons] at hnd
    have hlt' : ∀ r ∈ vs, r.1 < (a0.put (some q.1) q.2).tmps.size := fun r hr => by simpa [Act.put] using hlt r (List.mem_cons_of_mem _ hr)
    rw [List.foldl_cons]
    rcases List.mem_cons.1 hp with e | hp
    · rw [e, puts_out vs _ q.1 hlt' hnd.1]
      show (a0.tmps.setIfInBounds q.1 q.2).getD q.1 undef = _
      rw [getD_set _ _ _ _ _ (hlt q (List.mem_cons_self ..)), if_pos rfl]
    · exact ih _ hlt' hnd.2 p hp
/-- An act is told by its slots. -/
theorem act_puts {a a0 : Act} (vs : List (Tmp × Value)) (hsz : a.tmps.size = a0.tmps.size) (hd : a.defers = a0.defers) (hlt : ∀ p ∈ vs, p.1 < a0.tmps.size) (hnd : (vs.map (·.1)).Nodup)
    (hin : ∀ p ∈ vs, a.tmps.getD p.1 undef = p.2) (hout : ∀ t, t ∉ vs.map (·.1) → a.tmps.getD t undef = a0.tmps.getD t undef) : a = vs.foldl (fun b p => b.put (some p.1) p.2) a0 := by
  obtain ⟨s1, s2⟩ := puts_size vs a0
  have ht : a.tmps = (vs.foldl (fun b p => b.put (some p.1) p.2) a0).tmps := by
    refine Array.ext (hsz.trans s1.symm) fun i h1 h2 => ?_
    have hg : a.tmps.getD i undef = (vs.foldl (fun b p => b.put (some p.1) p.2) a0).tmps.getD i undef := by
      by_cases hm : i ∈ vs.map (·.1)
      · obtain ⟨p, hp, rfl⟩ := List.mem_map.1 hm
        rw [hin p hp, puts_in vs a0 hlt hnd p hp]
      · rw [hout i hm, puts_out vs a0 i hlt hm]
    simpa [Array.getD_eq_getD_getElem?, Array.getElem?_eq_getElem h1, Array.getElem?_eq_getElem h2] using hg
  cases a with
  | mk t d =>
    generalize hB : vs.foldl (fun b p => b.put (some p.1) p.2) a0 = B at ht s2 ⊢
    cases B
    simp only at ht s2 hd
    subst ht
    rw [hd, s2]
/-- The act behind a region, by what its operations left. -/
theorem act_of {a a0 : Act} {ops : Array Oper} (vs : List (Tmp × Value)) (hsz : a.tmps.size = a0.tmps.size) (hd : a.defers = a0.defers)
    (hkept : ∀ t : Tmp, (∀ (i : Nat) (o : Oper), ops[i]? = some o → o.dst ≠ some t) → a.tmps.getD t undef = a0.tmps.getD t undef)
    (hops : ops.toList.map (·.dst) = vs.map fun p => some p.1) (hlt : (vs.all fun p => decide (p.1 < a0.tmps.size)) = true) (hnd : (vs.map (·.1)).Nodup)
    (hin : ∀ p ∈ vs, a.tmps.getD p.1 undef = p.2) : a = vs.foldl (fun b p => b.put (some p.1) p.2) a0 :=
  act_puts vs hsz hd (fun p hp => by simpa using List.all_eq_true.1 hlt p hp) hnd hin fun t ht => hkept t fun i o ho e => by
    have h1 : some t ∈ ops.toList.map (·.dst) := List.mem_map.2 ⟨o, List.mem_of_getElem? (by simpa using ho), e⟩
    rw [hops] at h1
    obtain ⟨p, hp, e2⟩ := List.mem_map.1 h1
    exact ht (List.mem_map.2 ⟨p, hp, Option.some.inj e2⟩)
end Go.Proofs.YtgljkgkmbfhgiaaDoor
