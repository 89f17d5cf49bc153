/- The reference's Live, Count, Many, Handle and New: what the printed functions say. -/
import Derived.Test.YtlpjjbkpoaohnaaDoorSlotsRef
import Derived.Test.YtlpjjbkpoaohnaaDoorPRefx1
set_option linter.unusedVariables false
set_option linter.unusedSimpArgs false
namespace Go.Proofs.YtlpjjbkpoaohnaaDoor
open Go.RowKit Slots
open Go.Proofs.YtlpjjbkpoaohnaaDoorW.PrintWords (Kd rd encs)

theorem RowI.toC {k : IntKind} {e : TypeId} {w : World} {A : Option Addr} {l : List Int} (h : RowI k e w A l) (hl : l.length ≤ 1000000) : Kd.C (Kd.int k) w A l.length l := by
  refine ⟨rfl, by omega, fun hn => ?_⟩
  rcases h with h | ⟨b, off, rfl, hb, h⟩
  · subst h; simp at hn
  · refine ⟨_, rfl, fun j p hp => ⟨[.int k p], rfl, rfl, fun i u hu => ?_⟩⟩
    cases i with
    | zero =>
      simp only [List.getElem?_cons_zero, Option.some.injEq] at hu
      subst hu
      have := h j p hp
      rwa [show ((⟨b, off, none⟩ : Addr).add (j * (Kd.int k).sz + 0)) = ⟨b, off + j, none⟩ by
        show ((⟨b, off, none⟩ : Addr).add (j * 1 + 0)) = _
        unfold Addr.add; split <;> simp_all]
    | succ i => simp at hu
theorem OwnI.ofR {k : IntKind} {e : TypeId} {w : World} {B : Nat} {ok : Nat → Prop} {v : Value} {l : List Int} (h : Kd.R (Kd.int k) e w B ok v l) : OwnI w B e k v l := by
  have := Kd.own_of_R h
  simpa [OwnI, encs] using this
theorem rd_gen (x : Rf) (i : Int) : rd x.gens i = x.gen i := by simp [rd, Rf.gen, List.getD_eq_getElem?_getD]
theorem rd_count (x : Rf) (i : Int) : rd x.counts i = x.count i := by simp [rd, Rf.count, List.getD_eq_getElem?_getD]

theorem live_f (x : Rf) (a : Int × Int) (hl : x.counts.length = x.gens.length) : PRef.gatepostref19_Live.f x.gens x.counts x.free x.last a.1 a.2 = some (decide (x.live a)) := by
  unfold PRef.gatepostref19_Live.f Rf.live
  rw [rd_gen, rd_count]
  by_cases h0 : 0 ≤ a.1
  · by_cases h1 : a.1 < x.gens.length
    · rw [if_pos h0, if_pos h1, if_pos h0, if_pos (by omega)]
      by_cases h2 : 0 < x.count a.1
      · rw [if_pos h2]
        simp [h0, h1, h2]
        exact Bool.eq_iff_iff.2 (by simp)
      · rw [if_neg h2]
        simp [h2]
    · rw [if_pos h0, if_neg h1]
      simp [h1]
  · rw [if_neg h0]
    simp [h0]
theorem ref_live {w : World} {v : Value} {x : Rf} (h : RfAt w v x) (hl : x.counts.length = x.gens.length) (a : Int × Int) :
    Calls Tryd.prog 62 #[v, .agg #[.int .i64 a.1, .int .u64 a.2]] w fun e w' => e = .returned (.bool (decide (x.live a))) ∧ Below w.heap.size w w' := by
  obtain ⟨A0, A1, A2, c0, c1, c2, rfl, h⟩ := h
  have h1 := h.lg
  have h2 := h.lc
  have h3 := h.lf
  exact PRef.gatepostref19_Live.calls A0 c0 _ A1 c1 _ A2 c2 _ _ _ _ _ w (h.g.toC (by omega)) h.cg (h.c.toC (by omega)) h.cc (h.f.toC (by omega)) h.cf (live_f x a hl)
theorem ref_count {w : World} {v : Value} {x : Rf} (h : RfAt w v x) (hl : x.counts.length = x.gens.length) (a : Int × Int) :
    Calls Tryd.prog 48 #[v, .agg #[.int .i64 a.1, .int .u64 a.2]] w fun e w' => e = .returned (.tuple #[.int .i64 (if x.live a then x.count a.1 else 0), .int .i64 (if x.live a then 0 else 7)]) ∧ Below w.heap.size w w' := by
  obtain ⟨A0, A1, A2, c0, c1, c2, rfl, h⟩ := h
  have h1 := h.lg
  have h2 := h.lc
  have h3 := h.lf
  refine PRef.gatepostref19_Count.calls A0 c0 _ A1 c1 _ A2 c2 _ _ _ _ _ _ w (h.g.toC (by omega)) h.cg (h.c.toC (by omega)) h.cc (h.f.toC (by omega)) h.cf ?_
  unfold PRef.gatepostref19_Count.f
  rw [live_f x a hl, Option.bind_some, rd_count]
  by_cases hv : x.live a
  · have := hv
    obtain ⟨p1, p2, _⟩ := hv
    simp only [this, decide_true, if_true, if_pos p1, if_pos (show a.1 < (x.counts.length : Int) by omega)]
  · simp [hv]

/-- An act's handle. -/
def handleOf (b c : Int) : Int × Int := (b % 6, c % 5)
theorem ref_handle (a b c : Int) (hb : 0 ≤ b ∧ b ≤ 255) (hc : 0 ≤ c ∧ c ≤ 255) (w : World) :
    Calls Tryd.prog 45 #[.agg #[.int .u8 a, .int .u8 b, .int .u8 c]] w fun e w' => e = .returned (.agg #[.int .i64 (handleOf b c).1, .int .u64 (handleOf b c).2]) ∧ Below w.heap.size w w' := by
  refine PRef.gatepostref19_Handle.calls a b c _ _ w ?_
  unfold PRef.gatepostref19_Handle.f handleOf
  have h1 : wrap64 b = b := by unfold wrap64; omega
  have h2 : Int.tmod c 5 = c % 5 := Int.tmod_eq_emod_of_nonneg hc.1
  have h3 : Int.tmod b 6 = b % 6 := Int.tmod_eq_emod_of_nonneg hb.1
  have h4 : IntKind.u64.wrap (c % 5) = c % 5 := by simp [IntKind.wrap, IntKind.signed, IntKind.bits]; omega
  rw [h1, h2, h3, h4]

theorem new_l (many : Nat) (last : Int) (hm : many ≤ 4096) : ∀ (d i : Nat), i + d = many → PRef.gatepostref19_New.l0 (d + 1) many i (List.replicate i 1) (List.replicate i 0) ((List.range i).map fun i : Nat => (i : Int)) last = some ((newRf many last).gens, (newRf many last).counts, (newRf many last).free, last, 0) := by
  intro d
  induction d with
  | zero =>
    intro i h
    have hi : i = many := by omega
    subst hi
    rw [PRef.gatepostref19_New.l0]
    rw [if_neg (by omega)]
    rfl
  | succ d ih =>
    intro i h
    have w1 : wrap64 ((i : Int) + 1) = ((i + 1 : Nat) : Int) := by unfold wrap64; omega
    rw [PRef.gatepostref19_New.l0]
    rw [if_pos (by omega), if_pos (by simp; omega), if_pos (by simp; omega), if_pos (by simp; omega), w1]
    have := ih (i + 1) (by omega)
    rwa [List.replicate_succ', List.replicate_succ', List.range_succ, List.map_append] at this
theorem ref_new_ok (many : Nat) (last : Int) (h1 : 1 ≤ many) (h2 : many ≤ 4096) (h3 : last ≠ 0) (w : World) :
    Calls Tryd.prog 26 #[.int .i64 many, .int .u64 last] w fun e w' => (∃ v, e = .returned (.tuple #[v, .int .i64 0]) ∧ RfAt w' v (newRf many last)) ∧ Below w.heap.size w w' := by
  have hf : PRef.gatepostref19_New.f (many + 2) many last = some ((newRf many last).gens, (newRf many last).counts, (newRf many last).free, last, 0) := by
    unfold PRef.gatepostref19_New.f
    rw [if_neg (by omega), if_neg (by omega), show (last == 0) = false by simpa using h3]
    simp only [PRef.gatepostref19_New.j0, Bool.false_eq_true, if_false]
    exact new_l many last h2 many 0 (by omega)
  refine (PRef.gatepostref19_New.calls (many + 2) many last _ _ _ _ _ w hf).mono ?_
  rintro e w' ⟨v0, v1, v2, rfl, r0, r1, r2, hb⟩
  obtain ⟨A0, c0, rfl, q0, l0, _⟩ := (OwnI.ofR r0).row
  obtain ⟨A1, c1, rfl, q1, l1, _⟩ := (OwnI.ofR r1).row
  obtain ⟨A2, c2, rfl, q2, l2, _⟩ := (OwnI.ofR r2).row
  exact ⟨⟨_, rfl, A0, A1, A2, c0, c1, c2, rfl, ⟨q0, q1, q2, l0, l1, l2, by simp [newRf]; omega, by simp [newRf]; omega, by simp [newRf]; omega⟩⟩, hb⟩
theorem ref_new_bad (many : Int) (last : Int) (h : many < 1 ∨ 4096 < many ∨ last = 0) (w : World) :
    Calls Tryd.prog 26 #[.int .i64 many, .int .u64 last] w fun e w' => (∃ v, e = .returned (.tuple #[v, .int .i64 1])) ∧ Below w.heap.size w w' := by
  have hf : PRef.gatepostref19_New.f 1 many last = some ([], [], [], 0, 1) := by
    unfold PRef.gatepostref19_New.f
    by_cases h1 : many < 1
    · rw [if_pos h1]; rfl
    · rw [if_neg h1]
      by_cases h2 : many > 4096
      · rw [if_pos h2]; rfl
      · rw [if_neg h2, show (last == 0) = true by simp; omega]; rfl
  refine (PRef.gatepostref19_New.calls 1 many last _ _ _ _ _ w hf).mono ?_
  rintro e w' ⟨v0, v1, v2, rfl, _, _, _, hb⟩
  exact ⟨⟨_, rfl⟩, hb⟩
end Go.Proofs.YtlpjjbkpoaohnaaDoor
