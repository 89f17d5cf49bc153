/- Suffixes and registrable names, plain: a shorter name has the same suffix; the last labels of a name, as a text, have those labels. -/
import Derived.Test.YtgljkgkmbfhgiaaDoorSiteTold
import Derived.Test.YtgljkgkmbfhgiaaDoorTriePure
set_option linter.unusedVariables false
set_option linter.unusedSimpArgs false
namespace Go.Proofs.YtgljkgkmbfhgiaaDoor
open Go.RowKit Four

theorem ofL_take : ∀ (r ls : List ByteArray) (k : Nat), ofL r (ls.take k) = true ↔ ofL r ls = true ∧ r.length ≤ k ∨ r = []
  | [], ls, k => by simp [ofL]
  | x :: r, [], k => by simp [ofL]
  | x :: r, y :: ls, 0 => by simp [ofL]
  | x :: r, y :: ls, k + 1 => by
    have ih := ofL_take r ls k
    rw [List.take_succ_cons]
    simp only [ofL, Bool.and_eq_true]
    constructor
    · rintro ⟨h1, h2⟩
      rcases ih.1 h2 with ⟨h3, h4⟩ | rfl
      · exact .inl ⟨⟨h1, h3⟩, by simp; omega⟩
      · exact .inl ⟨⟨h1, rfl⟩, by simp⟩
    · rintro (⟨⟨h1, h3⟩, h4⟩ | h)
      · exact ⟨h1, ih.2 (.inl ⟨h3, by simp at h4; omega⟩)⟩
      · cases h
theorem longest_take (ls : List ByteArray) (e : Bool) (l : List Rule) (k : Nat) (h : longestR ls e l (-1) ≤ k) : longestR (ls.take k) e l (-1) = longestR ls e l (-1) := by
  have h1 := longest_best ls e l
  have h2 := longest_best (ls.take k) e l
  refine h2.uniq h1 fun m => ⟨?_, ?_⟩
  · rintro ⟨r, hr, he, ho, rfl⟩
    refine ⟨r, hr, he, ?_, rfl⟩
    rcases (ofL_take _ _ _).1 ho with ⟨h3, -⟩ | h3
    · exact h3
    · rw [h3]; rfl
  · rintro ⟨r, hr, he, ho, rfl⟩
    refine ⟨r, hr, he, (ofL_take _ _ _).2 (.inl ⟨ho, ?_⟩), rfl⟩
    have := h1.le _ ⟨r, hr, he, ho, rfl⟩
    omega
/-- A name that is cut to one label more than its suffix has the same suffix. -/
theorem suffix_take (l : List Rule) (ls : List ByteArray) (n : Nat) (hn : suffixR l ls = n) (hlt : n < ls.length) : suffixR l (ls.take (n + 1)) = n := by
  have b1 := longest_le ls true l
  have b2 := longest_le ls false l
  unfold suffixR pick at hn ⊢
  have hlen : (ls.take (n + 1)).length = n + 1 := by rw [List.length_take]; omega
  by_cases hx : longestR ls true l (-1) ≥ 0
  · rw [if_pos hx] at hn
    rw [longest_take ls true l (n + 1) (by omega), if_pos hx]
    exact hn
  · rw [if_neg hx] at hn
    rw [longest_take ls true l (n + 1) (by omega), if_neg hx]
    by_cases hy : longestR ls false l (-1) ≥ 0
    · rw [if_pos hy] at hn
      rw [longest_take ls false l (n + 1) (by omega), if_pos hy]
      exact hn
    · rw [if_neg hy] at hn
      rw [longest_take ls false l (n + 1) (by omega), if_neg hy, hlen]
      omega

/-! ### Texts of labels -/
theorem split_no (c : UInt8) : ∀ (l p : List UInt8), p ∈ splitL c l → c ∉ p
  | [], p, h => by simp [splitL] at h; subst h; simp
  | x :: l, p, h => by
    by_cases hx : x = c
    · subst hx
      rw [splitL_eq] at h
      rcases List.mem_cons.1 h with rfl | h
      · simp
      · exact split_no x l p h
    · cases hs : splitL c l with
      | nil => exact absurd hs (splitL_ne c l)
      | cons q qs =>
        rw [splitL_step hx hs] at h
        rcases List.mem_cons.1 h with rfl | h
        · intro hm
          rcases List.mem_cons.1 hm with hm | hm
          · exact hx hm.symm
          · exact split_no c l q (by rw [hs]; simp) hm
        · exact split_no c l p (by rw [hs]; simp [h])
theorem join_split : ∀ l : List UInt8, Lib.join (splitL 46 l) [46] = l
  | [] => by simp [splitL, Lib.join_one]
  | x :: l => by
    have ih := join_split l
    by_cases hx : x = 46
    · subst hx
      rw [splitL_eq, join_front [] (splitL_ne _ _), ih]
      rfl
    · cases hs : splitL 46 l with
      | nil => exact absurd hs (splitL_ne _ _)
      | cons q qs =>
        rw [splitL_step hx hs]
        rw [hs, Lib.join_cons] at ih
        rw [Lib.join_cons, ← ih]
        rfl
theorem split_join : ∀ ps : List (List UInt8), ps ≠ [] → (∀ p ∈ ps, (46 : UInt8) ∉ p) → splitL 46 (Lib.join ps [46]) = ps
  | [], h, _ => absurd rfl h
  | [x], _, h => by rw [Lib.join_one]; exact splitL_none 46 x (h x (List.mem_singleton.2 rfl))
  | x :: y :: r, _, h => by
    rw [join_front x (by simp), splitL_append 46 _ _ (h x (List.mem_cons_self ..)), split_join (y :: r) (by simp) (fun p hp => h p (List.mem_cons_of_mem _ hp))]
theorem join_snoc (ps : List (List UInt8)) (h : ps ≠ []) : Lib.join (ps ++ [[]]) [46] = Lib.join ps [46] ++ [46] := by
  induction ps with
  | nil => exact absurd rfl h
  | cons x r ih =>
    by_cases hr : r = []
    · subst hr
      rw [List.cons_append, List.nil_append, join_front x (by simp), Lib.join_one, Lib.join_one]
    · rw [List.cons_append, join_front x (by simp), join_front x hr, ih hr]
      simp
/-- What labels are, by the parts. -/
theorem labels_parts {s : ByteArray} {L : List ByteArray} (h : labelsL s = some L) : [] ∉ partsL s.data.toList ∧ L.reverse.map (·.data.toList) = partsL s.data.toList ∧ ∀ p ∈ partsL s.data.toList, (46 : UInt8) ∉ p := by
  unfold labelsL at h
  split at h
  · cases h
  · rename_i hno
    simp only [Option.some.injEq] at h
    subst h
    refine ⟨hno, ?_, ?_⟩
    · rw [List.reverse_reverse, List.map_map]
      conv => rhs; rw [← List.map_id (partsL s.data.toList)]
      apply List.map_congr_left
      intro x _
      exact mkB_data x
    · intro p hp
      unfold partsL at hp
      split at hp
      · exact split_no 46 _ p (List.dropLast_subset _ hp)
      · exact split_no 46 _ p hp
theorem dotted_snoc (l : List UInt8) (c : UInt8) : dotted (mkB (l ++ [c])) = decide (c = 46) := dotted_at (c := c) (by rw [mkB_data, mkB_size]; simp) (by rw [mkB_size]; simp)
theorem join_end : ∀ (ps : List (List UInt8)), ps ≠ [] → ∃ A, Lib.join ps [46] = A ++ ps.getLastD []
  | [], h => absurd rfl h
  | [x], _ => ⟨[], by rw [Lib.join_one]; rfl⟩
  | x :: y :: r, _ => by
    obtain ⟨A, hA⟩ := join_end (y :: r) (by simp)
    refine ⟨x ++ 46 :: A, ?_⟩
    rw [join_front x (by simp), hA]
    simp [List.getLastD]
/-- A name is its labels' text. -/
theorem name_is {s : ByteArray} {L : List ByteArray} (h : labelsL s = some L) : lastT s L L.length = s.data.toList ∧ 0 < L.length := by
  obtain ⟨hno, hmap, hdot⟩ := labels_parts h
  have hlen : L.length = (partsL s.data.toList).length := by rw [← hmap]; simp
  have hjs := join_split s.data.toList
  have hne := splitL_ne 46 s.data.toList
  unfold lastT joinT
  rw [List.take_length, hmap, hlen]
  unfold partsL at hno ⊢
  by_cases hc : 1 < (splitL 46 s.data.toList).length ∧ (splitL 46 s.data.toList).getLastD [] = []
  · rw [if_pos hc] at hno ⊢
    have hd : (splitL 46 s.data.toList) = (splitL 46 s.data.toList).dropLast ++ [[]] := by
      have := List.dropLast_concat_getLast hne
      rw [← this]
      rw [List.dropLast_concat]
      congr 2
      have h2 := hc.2
      rw [List.getLastD_eq_getLast?, List.getLast?_eq_some_getLast hne] at h2
      exact h2
    have hlen2 : 0 < ((splitL 46 s.data.toList).dropLast).length := by rw [List.length_dropLast]; omega
    have hne2 : (splitL 46 s.data.toList).dropLast ≠ [] := List.length_pos_iff.1 hlen2
    generalize (splitL 46 s.data.toList).dropLast = Q at *
    rw [hd, join_snoc Q hne2] at hjs
    have hdd : dotted s = true := by
      rw [← mkB_of s, ← hjs, dotted_snoc]
      rfl
    rw [if_pos ⟨hlen2, hdd⟩, hjs]
    exact ⟨rfl, hlen2⟩
  · rw [if_neg hc] at hno ⊢
    have hlen2 := splitL_pos 46 s.data.toList
    have hdd : ¬ dotted s = true := by
      obtain ⟨A, hA⟩ := join_end _ hne
      rw [hjs] at hA
      have hmem : (splitL 46 s.data.toList).getLastD [] ∈ splitL 46 s.data.toList := by
        rw [List.getLastD_eq_getLast?, List.getLast?_eq_some_getLast hne]
        exact List.getLast_mem hne
      have hp := split_no 46 _ _ hmem
      generalize (splitL 46 s.data.toList).getLastD [] = p at *
      have hpne : p ≠ [] := fun e => hno (by rw [← e]; exact hmem)
      rw [← mkB_of s, hA, ← List.dropLast_concat_getLast hpne, ← List.append_assoc, dotted_snoc]
      intro e
      have e := of_decide_eq_true e
      exact hp (by rw [← e]; exact List.getLast_mem hpne)
    rw [if_neg (fun e => hdd e.2), List.append_nil, hjs]
    exact ⟨rfl, hlen2⟩
theorem take_parts (L : List ByteArray) (k : Nat) (hk : k ≤ L.length) : (L.take k).reverse.map (·.data.toList) = (L.reverse.map (·.data.toList)).drop (L.length - k) := by
  rw [List.reverse_take, List.map_drop]
/-- The last k labels of a name have those labels. -/
theorem labels_last {s : ByteArray} {L : List ByteArray} (h : labelsL s = some L) (k : Nat) (hk : k ≤ L.length) : labelsL (mkB (lastT s L k)) = if k = 0 then none else some (L.take k) := by
  obtain ⟨hno, hmap, hdot⟩ := labels_parts h
  by_cases h0 : k = 0
  · subst h0
    rw [if_pos rfl]
    have : lastT s L 0 = [] := by unfold lastT; rw [if_neg (by simp)]; rfl
    rw [this]
    rfl
  · rw [if_neg h0]
    have hP := take_parts L k hk
    rw [hmap] at hP
    have hsub : ∀ p ∈ (partsL s.data.toList).drop (L.length - k), p ∈ partsL s.data.toList := fun p hp => List.mem_of_mem_drop hp
    have hlenP : 0 < ((partsL s.data.toList).drop (L.length - k)).length := by
      rw [← hP]; simp; omega
    have hT : lastT s L k = Lib.join ((partsL s.data.toList).drop (L.length - k)) [46] ++ (if 0 < k ∧ dotted s = true then [46] else []) := by
      unfold lastT joinT
      rw [hP]
    generalize (partsL s.data.toList).drop (L.length - k) = P at *
    have hPne : P ≠ [] := List.length_pos_iff.1 hlenP
    have hsp := split_join P hPne (fun p hp => hdot p (hsub p hp))
    have hparts : partsL (lastT s L k) = P := by
      rw [hT]
      by_cases hd : dotted s = true
      · rw [if_pos ⟨by omega, hd⟩]
        refine partsL_dot ?_ hPne
        rw [← join_snoc P hPne]
        -- the last part is empty
        have : ∀ ps : List (List UInt8), ps ≠ [] → (∀ p ∈ ps, (46 : UInt8) ∉ p) → splitL 46 (Lib.join ps [46]) = ps := split_join
        exact this _ (by simp) (by
          intro p hp
          rcases List.mem_append.1 hp with hp | hp
          · exact hdot p (hsub p hp)
          · simp only [List.mem_singleton] at hp; subst hp; simp)
      · rw [if_neg (fun e => hd e.2), List.append_nil]
        refine partsL_of hsp ?_
        rw [List.getLastD_eq_getLast?, List.getLast?_eq_some_getLast hPne]
        intro e
        exact hno (hsub _ (by rw [← show P.getLast hPne = [] from e]; exact List.getLast_mem hPne))
    unfold labelsL
    rw [mkB_data, hparts, if_neg (fun e => hno (hsub _ e))]
    congr 1
    rw [← hP, ← List.map_reverse, ← List.map_reverse, List.reverse_reverse, List.map_map]
    conv => rhs; rw [← List.map_id (L.take k)]
    apply List.map_congr_left
    intro x _
    exact mkB_of x
theorem joinT_split (L M : List ByteArray) (hL : L ≠ []) : ∃ A, joinT (L ++ M) = A ++ joinT L := by
  have key : ∀ n, ∃ A, joinT (L ++ M.take n) = A ++ joinT L := by
    intro n
    induction n with
    | zero => exact ⟨[], by simp⟩
    | succ n ih =>
      obtain ⟨A, hA⟩ := ih
      by_cases hn : n < M.length
      · rw [List.take_succ_eq_append_getElem hn, ← List.append_assoc, joinT_snoc, if_neg (by simp [hL]), hA]
        exact ⟨(M[n]).data.toList ++ 46 :: A, by simp⟩
      · rw [List.take_of_length_le (by omega)]
        rw [List.take_of_length_le (by omega)] at hA
        exact ⟨A, hA⟩
  have := key M.length
  rwa [List.take_length] at this
theorem last_split (s : ByteArray) (L : List ByteArray) (j k : Nat) (hjk : j ≤ k) (hk : k ≤ L.length) : ∃ A, lastT s L k = A ++ lastT s L j := by
  by_cases h0 : j = 0
  · subst h0
    have : lastT s L 0 = [] := by unfold lastT; rw [if_neg (by simp)]; rfl
    rw [this]
    exact ⟨_, (List.append_nil _).symm⟩
  · have e : L.take k = L.take j ++ (L.take k).drop j := by
      conv => lhs; rw [← List.take_append_drop j (L.take k)]
      rw [List.take_take, Nat.min_eq_left hjk]
    obtain ⟨A, hA⟩ := joinT_split (L.take j) ((L.take k).drop j) (by
      intro e
      have := congrArg List.length e
      rw [List.length_take, List.length_nil] at this
      omega)
    refine ⟨A, ?_⟩
    unfold lastT
    rw [e, hA]
    by_cases hd : dotted s = true
    · rw [if_pos ⟨by omega, hd⟩, if_pos ⟨by omega, hd⟩]
      simp
    · rw [if_neg (fun e => hd e.2), if_neg (fun e => hd e.2)]
      simp
end Go.Proofs.YtgljkgkmbfhgiaaDoor
