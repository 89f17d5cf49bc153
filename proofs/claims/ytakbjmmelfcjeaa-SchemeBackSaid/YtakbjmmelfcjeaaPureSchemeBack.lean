/- The law SchemeBack: for every two texts the call returns true, and what was there before is as it was: a scheme and a colon, ahead of any text, are cut from it, by small letters; it may still be a scheme, and is cut to itself. No condition. -/
import Derived.Test.YtakbjmmelfcjeaaPureSchemeCut
import Derived.Test.YtakbjmmelfcjeaaPSchemex8
set_option linter.unusedVariables false
set_option linter.unusedSimpArgs false
namespace Go.Proofs.Ytakbjmmelfcjeaa.Pure
open Go.RowKit Go.Proofs.YtakbjmmelfcjeaaW.PrintWords Go.Proofs.Ytakbjmmelfcjeaa.PScheme Go.Proofs.Ytakbjmmelfcjeaa Go.Proofs.Ytakbjmmelfcjeaa.Plain

theorem small_small (c : UInt8) : smallByte (smallByte c) = smallByte c := by
  have := all_bytes (p := fun n => smallByte (smallByte (UInt8.ofNat n)) = smallByte (UInt8.ofNat n)) (by decide +kernel) c
  simpa using this
theorem small_letter (c : UInt8) : letterB (smallByte c) = letterB c := by
  have := all_bytes (p := fun n => letterB (smallByte (UInt8.ofNat n)) = letterB (UInt8.ofNat n)) (by decide +kernel) c
  simpa using this
theorem small_odd (c : UInt8) : oddB (smallByte c) = oddB c := by
  have := all_bytes (p := fun n => oddB (smallByte (UInt8.ofNat n)) = oddB (UInt8.ofNat n)) (by decide +kernel) c
  simpa using this
theorem odd_colon : oddB 58 = true := by decide +kernel
theorem smallOf_data (s : ByteArray) : (smallOf s).data.toList = s.data.toList.map smallByte := rfl
theorem smallOf_twice (s : ByteArray) : smallOf (smallOf s) = smallOf s := data_inj (by rw [smallOf_data, smallOf_data, List.map_map]; apply List.map_congr_left; intro c _; exact small_small c)
theorem any_small (l : List UInt8) : (l.map smallByte).any oddB = l.any oddB := by
  induction l with
  | nil => rfl
  | cons c l ih => simp only [List.map_cons, List.any_cons, ih, small_odd]
theorem may_small (s : ByteArray) : mayOf (smallOf s) = mayOf s := by
  unfold mayOf
  rw [smallOf_data]
  cases s.data.toList with
  | nil => rfl
  | cons c l =>
    simp only [List.map_cons, small_letter]
    have := any_small (c :: l)
    simp only [List.map_cons] at this
    rw [this]
theorem may_none {s : ByteArray} (h : mayOf s = true) : ∀ d ∈ s.data.toList, d ≠ 58 := by
  unfold mayOf at h
  cases hl : s.data.toList with
  | nil => rw [hl] at h; cases h
  | cons c l =>
    rw [hl] at h
    simp only [Bool.and_eq_true, Bool.not_eq_true'] at h
    intro d hd e
    subst e
    have := List.any_eq_false.1 h.2 58 hd
    exact this odd_colon
theorem cut_back {s t : ByteArray} (h : mayOf s = true) : cutOf ((s ++ (⟨#[58]⟩ : ByteArray)) ++ t) = (smallOf s, t, true) := by
  have hd : ((s ++ (⟨#[58]⟩ : ByteArray)) ++ t).data.toList = s.data.toList ++ 58 :: t.data.toList := by
    rw [append_data, append_data]; simp
  have hix : Lib.indexByte ((s ++ (⟨#[58]⟩ : ByteArray)) ++ t).data.toList 58 = s.data.toList.length := by
    rw [hd]
    refine indexByte_at (by simp) fun j d hj hjd => ?_
    rw [List.getElem?_append_left hj] at hjd
    exact may_none h d (List.mem_of_getElem? hjd)
  have h1 : (((s ++ (⟨#[58]⟩ : ByteArray)) ++ t)).extract 0 s.data.toList.length = s := data_inj (by rw [take_data, hd]; simp)
  have h2 : (((s ++ (⟨#[58]⟩ : ByteArray)) ++ t)).extract (s.data.toList.length + 1) ((s ++ (⟨#[58]⟩ : ByteArray)) ++ t).size = t := data_inj (by rw [drop_data, hd, show s.data.toList ++ 58 :: t.data.toList = (s.data.toList ++ [58]) ++ t.data.toList by simp, List.drop_left' (by simp)])
  unfold cutOf
  rw [hix, Int.toNat_natCast, h1, h2]
  rw [if_pos ⟨by omega, h⟩]
theorem special_small {s : ByteArray} (h : scheme_Special.f s = some true) : smallOf s = s := by
  have key : ∀ l : List UInt8, s.toList = l → l.map smallByte = l → smallOf s = s := by
    intro l hl hm
    refine data_inj ?_
    rw [smallOf_data, ← ByteArray.toList_eq, hl, hm]
  unfold scheme_Special.f scheme_Default.f at h
  by_cases h1 : s.toList = [102, 116, 112]
  · exact key _ h1 (by decide +kernel)
  by_cases h2 : s.toList = [102, 105, 108, 101]
  · exact key _ h2 (by decide +kernel)
  by_cases h3 : s.toList = [104, 116, 116, 112]
  · exact key _ h3 (by decide +kernel)
  by_cases h4 : s.toList = [104, 116, 116, 112, 115]
  · exact key _ h4 (by decide +kernel)
  by_cases h5 : s.toList = [119, 115]
  · exact key _ h5 (by decide +kernel)
  by_cases h6 : s.toList = [119, 115, 115]
  · exact key _ h6 (by decide +kernel)
  simp [h1, h2, h3, h4, h5, h6] at h
theorem size_small (s : ByteArray) : (smallOf s).size = s.size := by rw [← len_data, ← len_data, smallOf_data, List.length_map]

theorem SchemeBack : gatepostlaw10_SchemeBack.Pure := by
  intro s t hs ht
  apply Ev.rounds (r := true)
  unfold gatepostlaw10_SchemeBack.f
  have hj : ∀ k, gatepostlaw10_SchemeBack.j0 (k + 1) s t true true = some true := fun k => by simp [gatepostlaw10_SchemeBack.j0]
  simp only [gatepostlaw10_awake.f, Option.bind_some]
  refine Ev.ite (fun _ => Ev.step hj (Ev.now _)) (fun h1 => ?_)
  refine Ev.ite (fun _ => Ev.step hj (Ev.now _)) (fun h2 => ?_)
  have hm : scheme_May.f s = some (mayOf s) := by unfold scheme_May.f; rw [if_pos hs]
  simp only [hm, Option.bind_some]
  cases hmay : mayOf s with
  | false => exact Ev.step hj (Ev.now _)
  | true =>
    have hsz := size_small s
    have e1 : (s ++ (⟨#[58]⟩ : ByteArray)).size = s.size + 1 := by rw [← len_data, append_data, List.length_append, len_data]; rfl
    have e2 : (smallOf s ++ (⟨#[58]⟩ : ByteArray)).size = s.size + 1 := by rw [← len_data, append_data, List.length_append, len_data, hsz]; rfl
    have e3 : ∀ u : ByteArray, u.size = s.size + 1 → (u ++ t).size ≤ 140737488351232 := fun u hu => by rw [← len_data, append_data, List.length_append, len_data, len_data]; omega
    have hms : scheme_May.f (smallOf s) = some true := by unfold scheme_May.f; rw [if_pos (by omega), may_small, hmay]
    refine Ev.step (f := fun k => (gatepostref10_Small.f k s).bind fun x => if (smallOf s).toList = x.toList then (if (smallOf s).toList = s.toList then some true else (scheme_Special.f s).bind fun z => some (!z)) else some false) (fun k => ?_) ?_
    · simp only [gatepostlaw10_SchemeBack.j0, Bool.not_true, Bool.false_eq_true, if_false]
      rw [if_pos (by omega), if_pos (by omega), cut_is _ (e3 _ e1), cut_back hmay]
      simp only [Option.bind_some, if_true]
      rw [if_pos (by omega), if_pos (by omega), cut_is _ (e3 _ e2), cut_back (by rw [may_small]; exact hmay), smallOf_twice]
      simp only [Option.bind_some, if_true, hms]
    · refine Ev.bind (small_ref s hs) ?_
      simp only [if_true]
      refine Ev.ite (fun _ => Ev.now _) (fun h => ?_)
      obtain ⟨b, hb, _⟩ := special_ref s
      cases b with
      | true => exact absurd (by rw [special_small hb]) h
      | false => simp only [hb, Option.bind_some, Bool.not_false]; exact Ev.now _
end Go.Proofs.Ytakbjmmelfcjeaa.Pure
