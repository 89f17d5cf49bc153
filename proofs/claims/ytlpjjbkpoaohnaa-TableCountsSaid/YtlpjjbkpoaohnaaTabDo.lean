/- The law's acts on a table: which are let in; one act. -/
import Derived.Test.YtlpjjbkpoaohnaaTabOpen
import Derived.Deep.LoopGhost
set_option linter.unusedVariables false
set_option linter.unusedSimpArgs false
set_option maxRecDepth 100000
namespace Go.Proofs.Ytlpjjbkpoaohnaa
open Go.RowKit Slots

/-! ### What the laws let in -/
def fitA (a : ActV) : Bool := decide (a.key.size ≤ 60) && decide (a.u.scheme.size ≤ 60) && decide (a.u.n = 0)
def fewT (l : List ActV) : Bool := decide (l.length ≤ 30) && l.all fitA
theorem fewT_not {l : List ActV} {a : ActV} (h : a ∈ l) (ha : fitA a = false) : fewT l = false := by
  cases e : fewT l
  · rfl
  · simp only [fewT, Bool.and_eq_true, List.all_eq_true] at e
    rw [e.2 a h] at ha
    cases ha
theorem fewT_long {l : List ActV} (h : ¬ l.length ≤ 30) : fewT l = false := by simp [fewT, h]
theorem fewT_all {l : List ActV} (h : l.length ≤ 30) (ha : ∀ a ∈ l, fitA a = true) : fewT l = true := by
  simp only [fewT, Bool.and_eq_true, decide_eq_true_eq, List.all_eq_true]
  exact ⟨h, ha⟩
theorem fewT_len {l : List ActV} (h : fewT l = true) : l.length ≤ 30 ∧ ∀ a ∈ l, a.key.size ≤ 60 ∧ a.u.scheme.size ≤ 60 ∧ a.u.n = 0 := by
  simp only [fewT, fitA, Bool.and_eq_true, decide_eq_true_eq, List.all_eq_true] at h
  exact ⟨h.1, fun a ha => ⟨(h.2 a ha).1.1, (h.2 a ha).1.2, (h.2 a ha).2⟩⟩
theorem take_snocT {α : Type} {l : List α} {i : Nat} {x : α} (h : l[i]? = some x) : l.take (i + 1) = l.take i ++ [x] := by
  obtain ⟨hi, rfl⟩ := List.getElem?_eq_some_iff.1 h
  simp
theorem take_allT {α : Type} {l : List α} {i : Nat} {a : α} {p : α → Prop} (h : ∀ s ∈ l.take i, p s) (ha : l[i]? = some a) (hp : p a) : ∀ s ∈ l.take (i + 1), p s := by
  rw [take_snocT ha]
  intro s hs
  rcases List.mem_append.1 hs with hs | hs
  · exact h s hs
  · simp only [List.mem_singleton] at hs; rw [hs]; exact hp
theorem wrap_upT (i n c : Nat) (h : i < n) (h2 : n ≤ c) (h3 : c ≤ maxLen) : Value.int .i64 (wrap64 ((i : Int) + 1)) = .int .i64 ((i + 1 : Nat) : Int) := by
  simp only [maxLen] at h3
  rw [show wrap64 ((i : Int) + 1) = ((i + 1 : Nat) : Int) by unfold wrap64; omega]
/-- An act in its row. -/
theorem act_at {w : World} {A : Option Addr} {l : List ActV} (h : RowAt ActV.cells 26 w A l) {i : Nat} {a : ActV} (hi : l[i]? = some a) :
    ∃ b off, A = some ⟨b, off, none⟩ ∧ w.rangeAt b (off + i * 26) a.cells ∧ w.cell? ⟨b, off + i * 26 + 1, none⟩ = some (.string a.key) ∧ w.cell? ⟨b, off + i * 26 + 2, none⟩ = some (.string a.u.scheme) ∧ w.cell? ⟨b, off + i * 26 + 18, none⟩ = some (.slice a.u.A a.u.n a.u.c) := by
  obtain ⟨b, off, e, hc⟩ := h i a hi
  exact ⟨b, off, e, fun j v hv => hc j v hv, hc 1 _ rfl, hc 2 _ rfl, hc 18 _ rfl⟩
set_option maxHeartbeats 2000000 in
theorem few_calls (A : Option Addr) (c : Nat) (l : List ActV) (w : World) (h : RowAt ActV.cells 26 w A l) (hlc : l.length ≤ c) (hcm : c ≤ maxLen) :
    Calls Try.prog 17 #[.slice A l.length c] w fun e w' => e = .returned (.bool (fewT l)) ∧ w = w' := by
  have H := Lib.hid h
  clear h
  go_enter Try.func17, Try.ntmps17
  go_wp2
  go_loopg [3] l.length (fun n v3 w' => Hid (∃ (i : Nat), v3 = .int .i64 i ∧ i ≤ l.length ∧ n = l.length - i ∧ (∀ s ∈ l.take i, fitA s = true) ∧ w' = w))
  case atStart => exact ⟨0, rfl, Nat.zero_le _, rfl, by simp, rfl⟩
  case round =>
    obtain ⟨i, rfl, hi, hn, hall, rfl⟩ := hrel.out
    clear hrel
    have HALL := Lib.hid hall
    clear hall
    have HN := Lib.hid hn
    clear hn
    by_cases hlt : i < l.length
    · by_cases h31 : i < 31
      · obtain ⟨a, ha⟩ : ∃ a, l[i]? = some a := ⟨l[i]'hlt, List.getElem?_eq_getElem hlt⟩
        obtain ⟨b, off, rfl, _, c1, c2, c18⟩ := act_at H.out ha
        have HA := Lib.hid ha
        clear ha
        by_cases h1 : (a.key.size : Int) > 60
        · go_wp2
          go_ret
          exact ⟨by rw [fewT_not (List.mem_of_getElem? HA.out) (by have h9 : ¬ a.key.size ≤ 60 := (by omega); simp [fitA, h9])]; rfl, rfl⟩
        · by_cases h2 : (a.u.scheme.size : Int) > 60
          · go_wp2
            go_ret
            exact ⟨by rw [fewT_not (List.mem_of_getElem? HA.out) (by have h9 : ¬ a.u.scheme.size ≤ 60 := (by omega); simp [fitA, h9])]; rfl, rfl⟩
          · by_cases h3 : (a.u.n : Int) > 0
            · go_wp2
              go_ret
              exact ⟨by rw [fewT_not (List.mem_of_getElem? HA.out) (by have h9 : ¬ a.u.n = 0 := (by omega); simp [fitA, h9])]; rfl, rfl⟩
            · go_wp2
              go_roundg (l.length - (i + 1))
              case measure => have := HN.out; omega
              case rel =>
                have g1 : a.key.size ≤ 60 := by omega
                have g2 : a.u.scheme.size ≤ 60 := by omega
                have g3 : a.u.n = 0 := by omega
                exact ⟨i + 1, (by first | exact wrap_upT _ _ _ hlt hlc hcm | simp), by omega, rfl, take_allT HALL.out HA.out (by simp [fitA, g1, g2, g3]), rfl⟩
      · by_cases h30 : (l.length : Int) ≤ 30
        · omega
        · go_wp2
          go_ret
          exact ⟨by rw [fewT_long (by omega)]; rfl, rfl⟩
    · by_cases h30 : (l.length : Int) ≤ 30
      · go_wp2
        go_ret
        exact ⟨by rw [fewT_all (by omega) (by have := HALL.out; rwa [List.take_of_length_le (by omega)] at this)]; rfl, rfl⟩
      · go_wp2
        go_ret
        exact ⟨by rw [fewT_long (by omega)]; rfl, rfl⟩

/-! ### One act -/
theorem results_cell_row1 {P : Program} {fn : Func} {p : Tmp} {ty : TypeId} (h : fn.results = #[.cell p ty]) (tmps : Array Value) (w : World) (g : Nat) (t : TypeId) (cs : Array Value) (fr : Nat × Nat) (d : TypeDesc)
    (hp : tmps.getD p undef = .pointer (some ⟨g, 0, none⟩)) (hg : w.heap[g]? = some (.cells cs t fr))
    (hu : P.underlying ty = some d) (hd : (match d with | .struct _ | .array _ _ => true | _ => false) = true) (hi : (P.info? ty).map (·.size) = some cs.size) :
    (results fn tmps).run P w = .ok (.agg cs) w := by
  have hp' : tmps[p]?.getD undef = .pointer (some ⟨g, 0, none⟩) := by simpa using hp
  simp [results, h, hp', asAddr, run_loadVar_row w g t ty cs fr d hg hu hd hi]
def handT (b c : Int) : Int × Int := (b % 6, c % 5)
theorem thandle_calls (a b c : Int) (hb : 0 ≤ b ∧ b ≤ 255) (hc : 0 ≤ c ∧ c ≤ 255) (w : World) :
    Calls Try.prog 28 #[.agg #[.int .u8 a, .int .u8 b, .int .u8 c]] w fun e w' => e = .returned (.agg #[.int .i64 (handT b c).1, .int .u64 (handT b c).2]) ∧ Below w.heap.size w w' := by
  unfold handT
  have h1 : IntKind.i64.wrap b = b := by rw [IntKind.wrap_i64]; omega
  have h2 : Int.tmod c 5 = c % 5 := Int.tmod_eq_emod_of_nonneg hc.1
  have h3 : Int.tmod b 6 = b % 6 := Int.tmod_eq_emod_of_nonneg hb.1
  have h4 : IntKind.u64.wrap (c % 5) = c % 5 := by rw [IntKind.wrap_u64]; omega
  clear hb hc
  go_enter Try.func28, Try.ntmps28
  go_wp2
  have hr := Blk.new (w.alloc (.cells #[.int .u8 a, .int .u8 b, .int .u8 c] 61)) 36 #[.int .i64 (b % 6), .int .u64 (c % 5)]
  rw [show (w.alloc (.cells #[.int .u8 a, .int .u8 b, .int .u8 c] 61)).heap.size = w.heap.size + 1 by simp] at hr
  refine bodyPost_ret (results_cell_row1 rfl _ _ (w.heap.size + 1) 36 _ (0, 0) _ rfl hr Try.underlying36 rfl (by kernel_rfl)) rfl ?_
  exact ⟨rfl, ((Below.refl _ w).alloc (Nat.le_refl _) _).alloc (by simp) _⟩
def Tb.act (t : Tb) (a : ActV) (ad : Nat) : Tb × (Int × Int) × Option Int :=
  if a.k % 3 = 0 then t.intern a.key a.u.arr ad
  else if a.k % 3 = 1 then ((t.release (handT a.hc a.hd)).1, (0, 0), (t.release (handT a.hc a.hd)).2)
  else (t, ((t.look a.key).map (·.h)).getD (0, 0), none)
def Tb.actR (t : Tb) (x : Rf) (a : ActV) : Rf :=
  if a.k % 3 = 0 then t.internR x a.key
  else if a.k % 3 = 1 then (x.drop (handT a.hc a.hd)).1
  else x
theorem Tb.Ok.act {K : Int} {t : Tb} {x : Rf} (h : t.Ok K x) (hK : 0 ≤ K) (a : ActV) (ad : Nat) (hk : a.key.size ≤ 1000000) : (t.act a ad).1.Ok (K + 1) (t.actR x a) := by
  unfold Tb.act Tb.actR
  by_cases h0 : a.k % 3 = 0
  · rw [if_pos h0, if_pos h0]; exact h.intern hK _ _ _ hk
  · rw [if_neg h0, if_neg h0]
    by_cases h1 : a.k % 3 = 1
    · rw [if_pos h1, if_pos h1]; exact h.release hK _
    · rw [if_neg h1, if_neg h1]; exact h.mono (by omega)

/-- What stands in do: the act's box, the result's. -/
structure DoT (w w1 : World) (A : TA) (t : Tb) (cs : Array Value) (x y : Value) : Prop where
  tb : TbM w1 A t
  ab : Blk w1 w.heap.size 63 cs
  rb : Blk w1 (w.heap.size + 1) 36 #[x, y]
  fr : Fr w w1 A.fp
theorem DoT.start {w : World} {A : TA} {t : Tb} (h : TbM w A t) (cs : Array Value) : DoT w ((w.alloc (.cells cs 63)).alloc (.cells #[.int .i64 0, .int .u64 0] 36)) A t cs (.int .i64 0) (.int .u64 0) := by
  refine ⟨(h.keep ((Below.refl w.heap.size w).alloc (Nat.le_refl _) _)).keep ((Below.refl _ _).alloc (Nat.le_refl _) _), (Blk.new w _ _).alloc _, ?_, ((Fr.refl w A.fp).alloc _).alloc _⟩
  have := Blk.new (w.alloc (.cells cs 63)) 36 #[.int .i64 0, .int .u64 0]
  simpa using this
section
variable {w w1 w2 : World} {A : TA} {t t' : Tb} {cs : Array Value} {x y : Value}
theorem DoT.keep (h : DoT w w1 A t cs x y) (hb : Below w1.heap.size w1 w2) : DoT w w2 A t cs x y := ⟨h.tb.keep hb, h.ab.keep hb, h.rb.keep hb, h.fr.trans (Fr.of_below hb A.fp) (fun _ hi => .inl hi)⟩
theorem DoT.did (h : DoT w w1 A t cs x y) (hT : TbM w2 A t') (hF : Fr w1 w2 A.fp) : DoT w w2 A t' cs x y :=
  ⟨hT, h.ab.fr hF (h.tb.apart h.ab (by decide) (by decide)), h.rb.fr hF (h.tb.apart h.rb (by decide) (by decide)), h.fr.trans hF (fun i hi => .inl hi)⟩
theorem DoT.res (h : DoT w w1 A t cs x y) (x' y' : Value) : DoT w ((w1.setCell ⟨w.heap.size + 1, 0, none⟩ x').setCell ⟨w.heap.size + 1, 1, none⟩ y') A t cs x' y' := by
  have hs : ∀ i, i ≠ w.heap.size + 1 → ((w1.setCell ⟨w.heap.size + 1, 0, none⟩ x').setCell ⟨w.heap.size + 1, 1, none⟩ y').heap[i]? = w1.heap[i]? := fun i hi => (Below.heap_setCell (w1.setCell ⟨w.heap.size + 1, 0, none⟩ x') ⟨w.heap.size + 1, 1, none⟩ y' i hi).trans (Below.heap_setCell w1 ⟨w.heap.size + 1, 0, none⟩ x' i hi)
  exact ⟨h.tb.blk_ h.rb (by decide) hs, (hs _ (by omega)).trans h.ab, (h.rb.set_ 0 x').set_ 1 y', (h.fr.setCell (p := ⟨w.heap.size + 1, 0, none⟩) (.inr (by simp)) x').setCell (p := ⟨w.heap.size + 1, 1, none⟩) (.inr (by simp)) y'⟩
theorem DoT.err {o : Option Int} {v : Value} (h : DoT w w1 A t cs x y) (hv : ErrT w1 o v) (x' y' : Value) : ErrT ((w1.setCell ⟨w.heap.size + 1, 0, none⟩ x').setCell ⟨w.heap.size + 1, 1, none⟩ y') o v := by
  cases o with
  | none => exact hv
  | some c => obtain ⟨l, hv⟩ := hv; exact ⟨l, res_chain h.rb hv x' y'⟩
theorem DoT.cells (h : DoT w w1 A t cs x y) : w1.cell? ⟨w.heap.size + 1, 0, none⟩ = some x ∧ w1.cell? ⟨w.heap.size + 1, 1, none⟩ = some y := by
  refine ⟨?_, ?_⟩ <;> (rw [h.rb.cell]; rfl)
theorem DoT.act (h : DoT w w1 A t cs x y) {a : ActV} (hcs : cs.toList = a.cells) : w1.cell? ⟨w.heap.size, 0, none⟩ = some (.int .u8 a.k) ∧ w1.cell? ⟨w.heap.size, 1, none⟩ = some (.string a.key) ∧ w1.rangeAt w.heap.size 2 a.u.arr.toList ∧ w1.cell? ⟨w.heap.size, 23, none⟩ = some (.int .u8 a.hk) ∧ w1.cell? ⟨w.heap.size, 24, none⟩ = some (.int .u8 a.hc) ∧ w1.cell? ⟨w.heap.size, 25, none⟩ = some (.int .u8 a.hd) := by
  have hc : ∀ i, w1.cell? ⟨w.heap.size, i, none⟩ = a.cells[i]? := fun i => by rw [h.ab.cell, ← Array.getElem?_toList, hcs]
  refine ⟨hc 0, hc 1, fun j v hv => ?_, hc 23, hc 24, hc 25⟩
  rw [hc]
  have hj : j < 21 := (List.getElem?_eq_some_iff.1 hv).1
  show ([Value.int .u8 a.k, .string a.key] ++ a.u.cells ++ [.int .u8 a.hk, .int .u8 a.hc, .int .u8 a.hd])[2 + j]? = some v
  rw [List.getElem?_append_left (by simp [UrlV.cells]; omega), List.getElem?_append_right (by simp)]
  rw [← hv]
  simp [UrlV.arr]
end
set_option maxHeartbeats 4000000 in
theorem tdo_calls {w : World} {A : TA} {t : Tb} {x : Rf} {K : Int} (h : TbM w A t) (hok : t.Ok K x) (hK : K ≤ 999998) (a : ActV) (ha : a.ok) (hks : a.key.size ≤ 1000000) (cs : Array Value) (hcs : cs.toList = a.cells) :
    Calls Try.prog 18 #[.pointer (some ⟨A.b, 0, none⟩), .agg cs] w fun e w' =>
      ∃ ad : Nat, (∃ v, e = .returned (.tuple #[.agg #[.int .i64 (t.act a ad).2.1.1, .int .u64 (t.act a ad).2.1.2], v]) ∧ ErrT w' (t.act a ad).2.2 v) ∧ TbM w' A (t.act a ad).1 ∧ Fr w w' A.fp := by
  have D0 := DoT.start h cs
  obtain ⟨c0, c1, c2, c23, c24, c25⟩ := D0.act hcs
  obtain ⟨⟨k1, k2⟩, _, ⟨q1, q2⟩, q3, q4⟩ := ha
  have hm : Int.tmod a.k 3 = a.k % 3 := Int.tmod_eq_emod_of_nonneg k1
  have HU := Lib.hid (a.u.ok)
  have HCS := Lib.hid hcs
  have hu1 := a.u.ok.1
  by_cases h0 : a.k % 3 = 0
  · have hact : ∀ ad, t.act a ad = t.intern a.key a.u.arr ad := fun ad => by unfold Tb.act; rw [if_pos h0]
    simp only [hact]
    have HC := Lib.hid (intern_calls D0.tb hok hK a.key hks a.u.arr a.u.ok)
    have HD := Lib.hid D0
    have HC2 := Lib.hid c2
    rw [h0] at hm
    clear h hok D0 hact c2 c23 c24 c25 h0 hcs
    generalize a.u.arr = U at *
    go_enter Try.func18, Try.ntmps18
    go_wp2_with (with_reducible (refine wpList_load_url HC2.out hu1 rfl _ rfl rfl ?_))
    refine HC.out.mono ?_
    rintro e w1 ⟨ad, ⟨v, rfl, hv⟩, hT, hF⟩
    have D1 := HD.out.did hT hF
    obtain ⟨r0, r1⟩ := D1.cells
    have rf := D1.rb.frozen
    have HD1 := Lib.hid D1
    have HV := Lib.hid hv
    generalize hres : t.intern a.key U ad = res at *
    clear D1 hT hF hv HD HC
    go_wp2_with fail
    have D2 := HD1.out.res (.int .i64 res.2.1.1) (.int .u64 res.2.1.2)
    have HV2 := HD1.out.err HV.out (.int .i64 res.2.1.1) (.int .u64 res.2.1.2)
    refine bodyPost_ret (results_cell_row2 rfl _ _ (w.heap.size + 1) 36 _ (0, 0) _ rfl D2.rb Try.underlying36 rfl (by kernel_rfl)) rfl ?_
    exact ⟨ad, by rw [hres]; exact ⟨⟨_, rfl, HV2⟩, D2.tb, D2.fr⟩⟩
  · by_cases h1 : a.k % 3 = 1
    · have hact : ∀ ad, t.act a ad = ((t.release (handT a.hc a.hd)).1, (0, 0), (t.release (handT a.hc a.hd)).2) := fun ad => by unfold Tb.act; rw [if_neg h0, if_pos h1]
      simp only [hact]
      have HH := Lib.hid (fun w' => thandle_calls a.hk a.hc a.hd ⟨q1, q2⟩ ⟨q3, q4⟩ w')
      have HC := Lib.hid (fun w' (hT : TbM w' A t) => release_calls hT hok hK (handT a.hc a.hd))
      have HD := Lib.hid D0
      rw [h1] at hm
      clear h hok D0 hact c1 c2 h0 h1 hcs HU hu1 q1 q2 q3 q4
      generalize handT a.hc a.hd = p at *
      generalize t.release p = res at *
      go_enter Try.func18, Try.ntmps18
      go_wp2_with fail
      refine (HH.out _).mono ?_
      rintro e w1 ⟨rfl, hb⟩
      have HD1 := Lib.hid (HD.out.keep hb)
      clear hb HD HH c0 c23 c24 c25
      go_wp2_with fail
      refine (HC.out _ HD1.out.tb).mono ?_
      rintro e w2 ⟨⟨v, rfl, hv⟩, hT, hF⟩
      have D2 := HD1.out.did hT hF
      obtain ⟨r0, r1⟩ := D2.cells
      have rf := D2.rb.frozen
      have HD2 := Lib.hid D2
      have HV := Lib.hid hv
      clear D2 hT hF hv HD1 HC
      go_wp2_with fail
      have D3 := HD2.out.res (.int .i64 0) (.int .u64 0)
      have HV3 := HD2.out.err HV.out (.int .i64 0) (.int .u64 0)
      refine bodyPost_ret (results_cell_row2 rfl _ _ (w.heap.size + 1) 36 _ (0, 0) _ rfl D3.rb Try.underlying36 rfl (by kernel_rfl)) rfl ?_
      exact ⟨0, ⟨_, rfl, HV3⟩, D3.tb, D3.fr⟩
    · have hact : ∀ ad, t.act a ad = (t, ((t.look a.key).map (·.h)).getD (0, 0), none) := fun ad => by unfold Tb.act; rw [if_neg h0, if_neg h1]
      simp only [hact]
      have h2 : a.k % 3 = 2 := by omega
      have HC := Lib.hid (find_calls D0.tb hok.n1 hok.n2 a.key hks)
      have HD := Lib.hid D0
      rw [h2] at hm
      clear h hok D0 hact c2 c23 c24 c25 h0 h1 h2 hcs HU hu1 q1 q2 q3 q4
      generalize ((t.look a.key).map (·.h)).getD (0, 0) = p at *
      generalize (t.look a.key).isSome = is at *
      go_enter Try.func18, Try.ntmps18
      go_wp2_with fail
      refine HC.out.mono ?_
      rintro e w1 ⟨rfl, hb⟩
      have HD1 := Lib.hid (HD.out.keep hb)
      clear hb HD HC c0 c1
      have D2 := HD1.out.keep ((Below.refl _ w1).alloc (Nat.le_refl _) (.cells #[.int .i64 p.1, .int .u64 p.2] 36))
      obtain ⟨r0, r1⟩ := D2.cells
      have rf := D2.rb.frozen
      obtain ⟨r01, r11⟩ := HD1.out.cells
      have rf1 := HD1.out.rb.frozen
      have ltr := HD1.out.rb.lt
      have nlt : ¬ w.heap.size + 1 = w1.heap.size := by omega
      have HD2 := Lib.hid D2
      clear D2
      go_wp2_with fail
      have D3 := (HD1.out.res (.int .i64 p.1) (.int .u64 p.2)).keep ((Below.refl _ _).alloc (Nat.le_refl _) (.cells #[.int .i64 p.1, .int .u64 p.2] 36))
      refine bodyPost_ret (results_cell_row2 rfl _ _ (w.heap.size + 1) 36 _ (0, 0) _ rfl D3.rb Try.underlying36 rfl (by kernel_rfl)) rfl ?_
      exact ⟨0, ⟨_, rfl, rfl⟩, D3.tb, D3.fr⟩
end Go.Proofs.Ytlpjjbkpoaohnaa
