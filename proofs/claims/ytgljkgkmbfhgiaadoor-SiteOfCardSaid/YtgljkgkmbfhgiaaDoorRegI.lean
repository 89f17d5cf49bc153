/- A region that draws its order, by what each operation leaves: every order at once. -/
import Derived.Test.YtgljkgkmbfhgiaaDoorRowR
import Derived.Orders
import Derived.KernelRfl
set_option linter.unusedVariables false
set_option linter.unusedSimpArgs false
namespace Go.Proofs.YtgljkgkmbfhgiaaDoor
open Go.RowKit

def textC (s : ByteArray) : List Value := [.string s]
/-- What an operation leaves: this value, or a new row of these texts. -/
inductive Sp where
  | is (v : Value)
  | row (l : List ByteArray)
def Sp.ok (w : World) (v : Value) : Sp → Prop
  | .is u => v = u
  | .row l => ∃ g, v = .slice (some ⟨g, 0, none⟩) l.length l.length ∧ RowAt textC 1 w (some ⟨g, 0, none⟩) l ∧ g < w.heap.size
theorem Sp.ok.keep {w w' : World} {v : Value} {s : Sp} (h : s.ok w v) (hb : Below w.heap.size w w') : s.ok w' v := by
  cases s with
  | is u => exact h
  | row l =>
    obtain ⟨g, h1, h2, h3⟩ := h
    exact ⟨g, h1, h2.keep hb, Nat.lt_of_lt_of_le h3 hb.size⟩
def fineOps (md : Region.Mode) (ops : Array Oper) (n : Nat) : Bool :=
  (ops.toList.all fun o => match o.dst with
    | some d => decide (d < n)
    | none => false) && decide ((ops.toList.map (·.dst)).Nodup) && (ops.toList.zipIdx.all fun p => p.1.after.all fun e => !Region.binds md e || decide (e.on < p.2))
theorem fine_spec {md : Region.Mode} {ops : Array Oper} {n : Nat} (h : fineOps md ops n = true) :
    (∀ (i : Nat) (o : Oper), ops[i]? = some o → ∃ d, o.dst = some d ∧ d < n) ∧ (∀ (i j : Nat) (o o' : Oper), ops[i]? = some o → ops[j]? = some o' → o.dst = o'.dst → i = j) ∧ (∀ (i : Nat) (o : Oper), ops[i]? = some o → ∀ e ∈ o.after, Region.binds md e = true → e.on < i) := by
  unfold fineOps at h
  simp only [Bool.and_eq_true, decide_eq_true_eq] at h
  obtain ⟨⟨h1, h2⟩, h3⟩ := h
  refine ⟨fun i o hi => ?_, fun i j o o' hi hj e => ?_, fun i o hi e he hb => ?_⟩
  · have := List.all_eq_true.1 h1 o (List.mem_of_getElem? (by simpa using hi))
    split at this
    · rename_i d hd
      exact ⟨d, hd, by simpa using this⟩
    · cases this
  · have hi' : (ops.toList.map (·.dst))[i]? = some o.dst := by simp [hi]
    have hj' : (ops.toList.map (·.dst))[j]? = some o.dst := by simp [hj, e]
    have li : i < (ops.toList.map (·.dst)).length := (List.getElem?_eq_some_iff.1 hi').1
    have lj : j < (ops.toList.map (·.dst)).length := (List.getElem?_eq_some_iff.1 hj').1
    have ei := (List.getElem?_eq_some_iff.1 hi').2
    have ej := (List.getElem?_eq_some_iff.1 hj').2
    have hp := List.pairwise_iff_getElem.1 h2
    rcases Nat.lt_trichotomy i j with hlt | heq | hgt
    · exact absurd (ei.trans ej.symm) (hp i j li lj hlt)
    · exact heq
    · exact absurd (ej.trans ei.symm) (hp j i lj li hgt)
  · have hm : (o, i) ∈ ops.toList.zipIdx := by
      rw [List.mem_zipIdx_iff_getElem?]
      simpa using hi
    have := List.all_eq_true.1 h3 _ hm
    have hall : ∀ e ∈ o.after, (!Region.binds md e || decide (e.on < i)) = true := Array.all_eq_true_iff_forall_mem.1 this
    have := hall e he
    rw [hb] at this
    simpa using this
section
variable {P : Program} {md : Region.Mode} {ops : Array Oper} {Q : Exit → Act → World → Prop} {sps : List Sp} {a0 : Act} {w0 : World}
structure RI (ops : Array Oper) (sps : List Sp) (a0 : Act) (w0 : World) (listed : Array Bool) (a : Act) (w : World) : Prop where
  be : Below w0.heap.size w0 w
  size : listed.size = ops.size
  tsz : a.tmps.size = a0.tmps.size
  defers : a.defers = a0.defers
  got : ∀ (i : Nat) (o : Oper) (d : Tmp) (sp : Sp), ops[i]? = some o → o.dst = some d → sps[i]? = some sp → listed.getD i false = true → sp.ok w (a.tmps.getD d undef)
  kept : ∀ t : Tmp, (∀ (i : Nat) (o : Oper), ops[i]? = some o → o.dst ≠ some t) → a.tmps.getD t undef = a0.tmps.getD t undef
theorem getD_set {α : Type} (A : Array α) (i j : Nat) (v d : α) (h : i < A.size) : (A.setIfInBounds i v).getD j d = if i = j then v else A.getD j d := by
  simp only [Array.getD_eq_getD_getElem?, Array.getElem?_setIfInBounds]
  by_cases e : i = j
  · subst e
    simp [h]
  · simp [e]
/-- How many have not come up. -/
def leftN (listed : Array Bool) : Nat := (List.range listed.size).countP fun i => !listed.getD i true
theorem left_zero {listed : Array Bool} (h : leftN listed = 0) : ∀ i, i < listed.size → listed.getD i true = true := by
  intro i hi
  have := List.countP_eq_zero.1 h i (List.mem_range.2 hi)
  simpa using this
theorem left_set {listed : Array Bool} {i : Nat} (h : listed.getD i true = false) : leftN (listed.setIfInBounds i true) < leftN listed := by
  have hi : i < listed.size := by
    rcases Nat.lt_or_ge i listed.size with h1 | h1
    · exact h1
    · simp [Array.getElem?_eq_none h1] at h
  unfold leftN
  rw [Array.size_setIfInBounds]
  have hm : i ∈ List.range listed.size := List.mem_range.2 hi
  obtain ⟨l1, l2, e⟩ := List.append_of_mem hm
  have hnd := List.nodup_range (n := listed.size)
  rw [e] at hnd ⊢
  have h1 : i ∉ l1 := fun hx => (List.nodup_append.1 hnd).2.2 i hx i (List.mem_cons_self ..) rfl
  have h2 : i ∉ l2 := (List.nodup_cons.1 (List.nodup_append.1 hnd).2.1).1
  have hs : ∀ l : List Nat, i ∉ l → (l.countP fun k => !(listed.setIfInBounds i true).getD k true) = l.countP fun k => !listed.getD k true := by
    intro l hl
    refine List.countP_congr fun k hk => ?_
    rw [getD_set _ _ _ _ _ hi, if_neg (fun e2 => hl (by rw [e2]; exact hk))]
  rw [List.countP_append, List.countP_append, List.countP_cons, List.countP_cons, hs l1 h1, hs l2 h2, getD_set _ _ _ _ _ hi, if_pos rfl, h]
  simp
/-- What a step is asked. -/
def StepRI (P : Program) (md : Region.Mode) (ops : Array Oper) (Q : Exit → Act → World → Prop) (sps : List Sp) (a0 : Act) (w0 : World) : Prop :=
  ∀ (i : Nat) (o : Oper) (sp : Sp), ops[i]? = some o → sps[i]? = some sp → ∀ a w, Below w0.heap.size w0 w → a.tmps.size = a0.tmps.size → (∀ t : Tmp, (∀ (i : Nat) (o : Oper), ops[i]? = some o → o.dst ≠ some t) → a.tmps.getD t undef = a0.tmps.getD t undef) →
    (∀ (j : Nat) (oj : Oper) (d : Tmp) (sj : Sp), ops[j]? = some oj → oj.dst = some d → sps[j]? = some sj → (o.after.any fun e => Region.binds md e && e.on == j) = true → sj.ok w (a.tmps.getD d undef)) →
    wpOp P ops Q i (fun a' w' => ∃ v, a' = a.put o.dst v ∧ sp.ok w' v ∧ Below w.heap.size w w') a w
theorem wpAny_RI (hf : fineOps md ops a0.tmps.size = true) (hlen : sps.length = ops.size) (hstep : StepRI P md ops Q sps a0 w0)
    (hend : ∀ (a : Act) (w : World), (∀ (i : Nat) (o : Oper) (d : Tmp) (sp : Sp), ops[i]? = some o → o.dst = some d → sps[i]? = some sp → sp.ok w (a.tmps.getD d undef)) → a.defers = a0.defers → Below w0.heap.size w0 w → Q .normal a w) :
    ∀ (fuel : Nat) (listed : Array Bool) (a : Act) (w : World), RI ops sps a0 w0 listed a w → leftN listed ≤ fuel → wpAny P md ops Q fuel listed a w := by
  obtain ⟨f1, f2, f3⟩ := fine_spec hf
  have hall : ∀ listed a w, RI ops sps a0 w0 listed a w → Region.ready md ops listed = [] → Q .normal a w := by
    intro listed a w h hr
    have hl : ∀ i, i < listed.size → listed.getD i true = true := by
      intro i
      induction i using Nat.strongRecOn with
      | _ i ih =>
        intro hi
        cases hc : listed.getD i true with
        | true => rfl
        | false =>
          obtain ⟨o, ho⟩ : ∃ o, ops[i]? = some o := ⟨ops[i]'(by rw [← h.size]; exact hi), Array.getElem?_eq_getElem _⟩
          have : i ∈ Region.ready md ops listed := mem_ready.2 ⟨hc, o, ho, fun e he hb => by
            have hlt := f3 i o ho e he hb
            have h1 := ih e.on hlt (by omega)
            have h2 : e.on < listed.size := by omega
            rw [Array.getD_eq_getD_getElem?, Array.getElem?_eq_getElem h2] at h1 ⊢
            exact h1⟩
          rw [hr] at this
          cases this
    refine hend a w (fun i o d sp ho hd hs => h.got i o d sp ho hd hs ?_) h.defers h.be
    have hi : i < listed.size := by rw [h.size]; exact (Array.getElem?_eq_some_iff.1 ho).1
    have h1 := hl i hi
    rw [Array.getD_eq_getD_getElem?, Array.getElem?_eq_getElem hi] at h1 ⊢
    exact h1
  intro fuel
  induction fuel with
  | zero =>
    intro listed a w h hl
    have hr : Region.ready md ops listed = [] := by
      cases hr : Region.ready md ops listed with
      | nil => rfl
      | cons i rest =>
        have hm : i ∈ Region.ready md ops listed := by rw [hr]; exact List.mem_cons_self ..
        obtain ⟨h1, o, ho, _⟩ := mem_ready.1 hm
        have h2 := left_zero (Nat.le_zero.1 hl) i (by rw [h.size]; exact (Array.getElem?_eq_some_iff.1 ho).1)
        rw [h1] at h2
        cases h2
    exact ⟨hr, hall listed a w h hr⟩
  | succ fuel ih =>
    intro listed a w h hl
    refine ⟨hall listed a w h, fun i hi => ?_⟩
    obtain ⟨h1, o, ho, hdeps⟩ := mem_ready.1 hi
    have hib : i < ops.size := (Array.getElem?_eq_some_iff.1 ho).1
    obtain ⟨sp, hsp⟩ : ∃ sp, sps[i]? = some sp := ⟨sps[i]'(by omega), List.getElem?_eq_getElem _⟩
    obtain ⟨d, hd, hdl⟩ := f1 i o ho
    refine wpOp_mono (fun a' w' hh => ?_) (hstep i o sp ho hsp a w h.be h.tsz h.kept fun j oj d' sj hj hdj hsj hany => h.got j oj d' sj hj hdj hsj ?_)
    · obtain ⟨v, rfl, hv, hb⟩ := hh
      refine ih _ _ _ ⟨belowOn h.be h.be.size hb, by rw [Array.size_setIfInBounds]; exact h.size, ?_, ?_, fun k ok' dk sk hk hdk hsk hlk => ?_, fun t ht => ?_⟩ ?_
      · rw [hd]; simp [Act.put, h.tsz]
      · rw [hd]; exact h.defers
      · rw [hd]
        show sk.ok w' ((a.tmps.setIfInBounds d v).getD dk undef)
        rw [getD_set _ _ _ _ _ (by rw [h.tsz]; exact hdl)]
        by_cases e : i = k
        · subst e
          rw [ho] at hk
          obtain rfl := Option.some.inj hk
          rw [hd] at hdk
          obtain rfl := Option.some.inj hdk
          rw [hsp] at hsk
          obtain rfl := Option.some.inj hsk
          rw [if_pos rfl]
          exact hv
        · rw [if_neg (fun e2 => e (f2 i k o ok' ho hk (by rw [hd, hdk, e2])))]
          rw [getD_set _ _ _ _ _ (by rw [h.size]; exact hib), if_neg e] at hlk
          exact (h.got k ok' dk sk hk hdk hsk hlk).keep hb
      · rw [hd]
        show (a.tmps.setIfInBounds d v).getD t undef = _
        rw [getD_set _ _ _ _ _ (by rw [h.tsz]; exact hdl), if_neg (fun e => ht i o ho (by rw [hd, e]))]
        exact h.kept t ht
      · have := left_set h1
        omega
    · obtain ⟨e, he, hon⟩ : ∃ e ∈ o.after, Region.binds md e = true ∧ e.on = j := by
        rw [← Array.any_toList] at hany
        obtain ⟨e, he, h⟩ := List.any_eq_true.1 hany
        have he := Array.mem_toList_iff.1 he
        simp only [Bool.and_eq_true, beq_iff_eq] at h
        exact ⟨e, he, h⟩
      rw [← hon.2]
      exact hdeps e he hon.1
theorem wp_region_RI {id : Nat} {a : Act} {w : World} (sps : List Sp) (hm : P.follows .mixedOrders = true) (hf : fineOps .any ops a.tmps.size = true) (hlen : sps.length = ops.size) (hstep : StepRI P .any ops Q sps a w)
    (hend : ∀ (a' : Act) (w' : World), (∀ (i : Nat) (o : Oper) (d : Tmp) (sp : Sp), ops[i]? = some o → o.dst = some d → sps[i]? = some sp → sp.ok w' (a'.tmps.getD d undef)) → a'.defers = a.defers → Below w.heap.size w w' → Q .normal a' w') : (Code.region id ops true).wp P Q a w :=
  wp_region_any hm (wpAny_RI hf hlen hstep hend _ _ _ _ ⟨(Below.refl _ _).drew, by simp, rfl, rfl, fun i o d sp ho hd hs hl => by
    have hi := (Array.getElem?_eq_some_iff.1 ho).1
    simp [Array.getD_eq_getD_getElem?, hi] at hl, fun t ht => rfl⟩ (by
    unfold leftN
    exact Nat.le_trans List.countP_le_length (by simp)))
theorem wpOp_value {i : Nat} {o : Oper} {a : Act} {w w' : World} {u : Value} {K : Act → World → Prop} (ho : ops[i]? = some o) (hw : Region.wanted o (yielded ops a.tmps) = true) (hr : (execOp a.eval o).run P w = .ok (.value u) w') (hk : K (a.put o.dst u) w') : wpOp P ops Q i K a w := by
  unfold wpOp
  simp only [ho, hw, if_true, Oper.wp, hr, Oper.upon]
  exact .inl hk
theorem wpOp_skipped {i : Nat} {o : Oper} {a : Act} {w : World} {K : Act → World → Prop} (ho : ops[i]? = some o) (hw : Region.wanted o (yielded ops a.tmps) = false) (hk : K (a.put o.dst undef) w) : wpOp P ops Q i K a w := by
  unfold wpOp
  simp only [ho, hw, Bool.false_eq_true, if_false]
  exact hk
theorem wpOp_enter {i : Nat} {o : Oper} {a : Act} {w : World} {f : FuncId} {args : Array Value} {K : Act → World → Prop} (ho : ops[i]? = some o) (hw : Region.wanted o (yielded ops a.tmps) = true) (hr : (execOp a.eval o).run P w = .ok (.enter f args) w) (hc : Calls P f args w fun e w' => ∃ u, e = .returned u ∧ K (a.put o.dst u) w') : wpOp P ops Q i K a w := by
  unfold wpOp
  simp only [ho, hw, if_true, Oper.wp, hr, Oper.upon]
  refine .inl (hc.mono ?_)
  rintro e w' ⟨u, rfl, hk⟩
  exact hk
end
end Go.Proofs.YtgljkgkmbfhgiaaDoor
namespace Go.Proofs.YtgljkgkmbfhgiaaDoor
open Go.RowKit
theorem got_some {A : Array Value} {q : Nat} {v : Value} (h : A.getD q undef = v) (hq : q < A.size) : A[q]? = some v := by
  rw [Array.getD_eq_getD_getElem?, Array.getElem?_eq_getElem hq] at h
  rw [Array.getElem?_eq_getElem hq]
  exact congrArg some h
theorem load_row {P : Program} {ρ : Operand → Value} {w : World} {g : Nat} {cs : Array Value} {q : Tmp} {t ty : TypeId} {N : Option Tmp} {pos : String} {a : Array Edge} {gd : Option (Nat × Bool)} (d : TypeDesc) (hd : (match d with | .struct _ | .array _ _ => true | _ => false) = true) (f2 : ρ (.tmp q) = .pointer (some ⟨g, 0, none⟩)) (K : Blk w g t cs)
    (hu : P.underlying t = some d) (hi : (P.info? t).map (·.size) = some cs.size) : (execOp ρ ⟨N, .load t (.tmp q), ty, pos, a, gd⟩).run P w = .ok (.value (.agg cs)) w := by
  simp only [execOp, f2]
  simp [Instr.loadAt, Instr.sureAddr, run_loadVar_row w g t t cs (0, 0) d K hu (by cases d <;> first | rfl | cases hd) hi]
def noDst (ops : Array Oper) (t : Tmp) : Bool := ops.toList.all fun o => decide (o.dst ≠ some t)
theorem noDst_spec {ops : Array Oper} {t : Tmp} (h : noDst ops t = true) : ∀ (i : Nat) (o : Oper), ops[i]? = some o → o.dst ≠ some t := fun i o hi => by
  have := List.all_eq_true.1 h o (List.mem_of_getElem? (by simpa using hi))
  simpa using this
section
variable {P : Program} {ops : Array Oper} {Q : Exit → Act → World → Prop}
/-- An operation by what its operands are. -/
theorem wpOp_plain {i : Nat} {o : Oper} {a : Act} {w w' : World} {u : Value} {K : Act → World → Prop} (ho : ops[i]? = some o) (hw : Region.wanted o (yielded ops a.tmps) = true)
    (hr : ∀ ρ : Operand → Value, (∀ v, ρ (.const v) = v) → (∀ f, ρ (.func f) = .func (.func f) #[] #[]) → (∀ t, ρ (.tmp t) = a.tmps.getD t undef) → (execOp ρ o).run P w = .ok (.value u) w') (hk : K (a.put o.dst u) w') : wpOp P ops Q i K a w :=
  wpOp_value ho hw (hr a.eval (fun _ => rfl) (fun _ => rfl) (fun _ => rfl)) hk
theorem wpOp_calls {i : Nat} {o : Oper} {a : Act} {w : World} {f : FuncId} {args : Array Value} {K : Act → World → Prop} (ho : ops[i]? = some o) (hw : Region.wanted o (yielded ops a.tmps) = true)
    (hr : ∀ ρ : Operand → Value, (∀ v, ρ (.const v) = v) → (∀ f, ρ (.func f) = .func (.func f) #[] #[]) → (∀ t, ρ (.tmp t) = a.tmps.getD t undef) → (execOp ρ o).run P w = .ok (.enter f args) w) (hc : Calls P f args w fun e w' => ∃ u, e = .returned u ∧ K (a.put o.dst u) w') : wpOp P ops Q i K a w :=
  wpOp_enter ho hw (hr a.eval (fun _ => rfl) (fun _ => rfl) (fun _ => rfl)) hc
end
end Go.Proofs.YtgljkgkmbfhgiaaDoor
