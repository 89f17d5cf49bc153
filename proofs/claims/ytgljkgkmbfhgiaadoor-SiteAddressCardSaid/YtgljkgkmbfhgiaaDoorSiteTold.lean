/- What the reference of a name's labels, and of its last ones, tells. What the closure of site.ends tells; the reference's labels and last ones, called. -/
import Derived.Test.YtgljkgkmbfhgiaaDoorFourBack
import Derived.Test.YtgljkgkmbfhgiaaDoorPureLib
import Derived.Test.YtgljkgkmbfhgiaaDoorPSitex1
import Derived.Test.YtgljkgkmbfhgiaaDoorSiteLab
import Derived.Lib.Join
import Derived.Test.YtgljkgkmbfhgiaaDoorRecPure
set_option linter.unusedVariables false
set_option linter.unusedSimpArgs false
namespace Go.Proofs.YtgljkgkmbfhgiaaDoor
open Go.RowKit Go.Proofs.YtgljkgkmbfhgiaaDoorW.PrintWords Go.Proofs.YtgljkgkmbfhgiaaDoor.PSite Go.Proofs.YtgljkgkmbfhgiaaDoor.Plain Four

theorem evP {α : Type} {c : Prop} [Decidable c] {f g : Nat → Option α} {r : α} (h : c) (k : Ev f r) : Ev (fun n => if c then f n else g n) r := Ev.ite (fun _ => k) (fun e => absurd h e)
theorem evN {α : Type} {c : Prop} [Decidable c] {f g : Nat → Option α} {r : α} (h : ¬ c) (k : Ev g r) : Ev (fun n => if c then f n else g n) r := Ev.ite (fun e => absurd e h) (fun _ => k)

/-! ### Split -/
def consHead (cur : List UInt8) : List (List UInt8) → List (List UInt8)
  | [] => [cur]
  | p :: ps => (cur ++ p) :: ps
theorem consHead_nil {l : List (List UInt8)} (h : l ≠ []) : consHead [] l = l := by
  cases l with
  | nil => exact absurd rfl h
  | cons p ps => rfl
theorem extract_mk (s : ByteArray) (a b : Nat) : s.extract a b = mkB ((s.data.toList.take b).drop a) := by
  refine data_inj ?_
  rw [mkB_data, Lib.extract_data, List.drop_take]
theorem split_ev (s : ByteArray) (c : UInt8) (hs : s.size ≤ 1000) : ∀ (d i fr : Nat) (out : List ByteArray), i ≤ s.size → fr ≤ i → s.size - i = d → out.length ≤ i →
    Ev (fun k => gatepostref07_Split.l0 k s c.toNat out fr i) (out ++ (consHead ((s.data.toList.take i).drop fr) (splitL c (s.data.toList.drop i))).map mkB) := by
  intro d
  induction d with
  | zero =>
    intro i fr out hi hf hd ho
    have e : i = s.size := by omega
    have e2 : s.data.toList.drop i = [] := List.drop_of_length_le (by rw [len_data]; omega)
    rw [e2]
    refine Ev.step (f := fun k => gatepostref07_Split.l0 k s c.toNat (out ++ [s.extract fr i]) ((i : Int) + 1) ((i : Int) + 1)) (fun k => ?_) (Ev.step (f := fun _ => some _) (fun k => ?_) (Ev.now _))
    · simp only [gatepostref07_Split.l0]
      rw [if_pos (by omega), if_pos (by omega), if_pos (by omega), if_pos (by omega), if_pos (by omega), wrap_in (by omega) (by omega)]
      rfl
    · simp only [gatepostref07_Split.l0]
      rw [if_neg (by omega)]
      rw [extract_mk]
      simp [consHead, splitL]
  | succ d ih =>
    intro i fr out hi hf hd ho
    obtain ⟨x, hx⟩ := byte_some (s := s) (i := i) (by omega)
    obtain ⟨hl, hg⟩ := List.getElem?_eq_some_iff.1 hx
    have hdr : s.data.toList.drop i = x :: s.data.toList.drop (i + 1) := by rw [List.drop_eq_getElem_cons hl, hg]
    have htk : s.data.toList.take (i + 1) = s.data.toList.take i ++ [x] := by rw [List.take_succ_eq_append_getElem hl, hg]
    have hxc : ((x.toNat : Int) = (c.toNat : Int)) ↔ x = c := ⟨fun h => UInt8.toNat_inj.1 (by omega), fun h => by rw [h]⟩
    rw [hdr]
    by_cases e : x = c
    · have h := ih (i + 1) (i + 1) (out ++ [s.extract fr i]) (by omega) (Nat.le_refl _) (by omega) (by simp; omega)
      refine Ev.step (f := fun k => gatepostref07_Split.l0 k s c.toNat (out ++ [s.extract fr i]) ((i + 1 : Nat) : Int) ((i + 1 : Nat) : Int)) (fun k => ?_) ?_
      · simp only [gatepostref07_Split.l0]
        rw [if_pos (by omega), if_neg (by omega), if_pos (by omega), if_pos (by omega), bt_nat s i x hx, if_pos (hxc.2 e), if_pos (by omega), if_pos (by omega), if_pos (by omega), wrap_in (by omega) (by omega)]
        rfl
      · have hz : (s.data.toList.take (i + 1)).drop (i + 1) = [] := List.drop_of_length_le (by rw [List.length_take]; omega)
        rw [hz, consHead_nil (splitL_ne _ _)] at h
        subst e
        rw [splitL_eq]
        rw [extract_mk] at h
        simpa [consHead, extract_mk] using h
    · have h := ih (i + 1) fr out (by omega) (by omega) (by omega) (by omega)
      refine Ev.step (f := fun k => gatepostref07_Split.l0 k s c.toNat out fr ((i + 1 : Nat) : Int)) (fun k => ?_) ?_
      · simp only [gatepostref07_Split.l0]
        rw [if_pos (by omega), if_neg (by omega), if_pos (by omega), if_pos (by omega), bt_nat s i x hx, if_neg (fun h => e (hxc.1 h)), wrap_in (by omega) (by omega)]
        rfl
      · rw [htk, List.drop_append_of_le_length (by rw [List.length_take, len_data]; omega)] at h
        have hne := splitL_ne c (s.data.toList.drop (i + 1))
        cases hsp : splitL c (s.data.toList.drop (i + 1)) with
        | nil => exact absurd hsp hne
        | cons p ps =>
          rw [splitL_step e hsp]
          rw [hsp] at h
          simpa [consHead] using h
theorem split_ref (s : ByteArray) (c : UInt8) (hs : s.size ≤ 1000) : Ev (fun k => gatepostref07_Split.f k s c.toNat) ((splitL c s.data.toList).map mkB) := by
  have h := split_ev s c hs s.size 0 0 [] (Nat.zero_le _) (Nat.le_refl _) rfl (Nat.le_refl _)
  simp only [List.drop_zero, List.take_zero] at h
  rw [consHead_nil (splitL_ne _ _), List.nil_append] at h
  exact h
theorem rdOf_map (l : List (List UInt8)) (i : Nat) (x : List UInt8) (h : l[i]? = some x) : rdOf ByteArray.empty (l.map mkB) (i : Int) = mkB x := by
  simp [rdOf, List.getD_eq_getElem?_getD, h]
theorem rdOf_at (l : List ByteArray) (i : Nat) (x : ByteArray) (h : l[i]? = some x) : rdOf ByteArray.empty l (i : Int) = x := by
  simp [rdOf, List.getD_eq_getElem?_getD, h]
theorem mkB_nil_iff (l : List UInt8) : (mkB l).toList = ([] : List UInt8) ↔ l = [] := by rw [ByteArray.toList_eq, mkB_data]

/-! ### Turned -/
theorem turned_ev (l : List ByteArray) (hl : l.length ≤ 1000) : ∀ (d : Nat) (out : List ByteArray), d ≤ l.length → out.length + d ≤ 1000 →
    Ev (fun k => gatepostref01_Turned.l0 k l out ((d : Int) - 1)) (out ++ (l.take d).reverse) := by
  intro d
  induction d with
  | zero =>
    intro out _ _
    refine Ev.step (f := fun _ => some _) (fun k => ?_) (Ev.now _)
    simp only [gatepostref01_Turned.l0]
    rw [if_neg (by omega)]
    simp
  | succ d ih =>
    intro out hd ho
    obtain ⟨x, hx⟩ : ∃ x, l[d]? = some x := ⟨l[d]'(by omega), List.getElem?_eq_getElem (by omega)⟩
    obtain ⟨hlt, hg⟩ := List.getElem?_eq_some_iff.1 hx
    have h := ih (out ++ [x]) (by omega) (by simp; omega)
    refine Ev.step (f := fun k => gatepostref01_Turned.l0 k l (out ++ [x]) ((d : Int) - 1)) (fun k => ?_) ?_
    · simp only [gatepostref01_Turned.l0]
      have e : ((d + 1 : Nat) : Int) - 1 = (d : Int) := by omega
      rw [e, if_pos (by omega), if_pos (by omega), if_pos (by omega), if_pos (by omega), rdOf_at l d x hx, wrap_in (by omega) (by omega)]
    · rw [List.take_succ_eq_append_getElem hlt, hg, List.reverse_append]
      simpa using h
theorem turned_ref (l : List ByteArray) (hl : l.length ≤ 1000) : Ev (fun k => gatepostref01_Turned.f k l) l.reverse := by
  have h := turned_ev l hl l.length [] (Nat.le_refl _) (by simpa using hl)
  rw [List.take_length, List.nil_append] at h
  refine Ev.congr (fun k => ?_) h
  unfold gatepostref01_Turned.f
  rw [wrap_in (by omega) (by omega)]

/-! ### Labels -/
def labP : Option (List ByteArray) → List ByteArray × Bool
  | none => ([], false)
  | some l => (l, true)
theorem labels_l0 (Q : List (List UInt8)) (hl : Q.length ≤ 1000) : ∀ (d i : Nat), i ≤ Q.length → Q.length - i = d → [] ∉ Q.take i →
    Ev (fun k => gatepostref15_Labels.l0 k (Q.map mkB) i) (labP (if [] ∈ Q then none else some (Q.map mkB).reverse)) := by
  intro d
  induction d with
  | zero =>
    intro i hi hd hno
    rw [List.take_of_length_le (by omega)] at hno
    rw [if_neg hno]
    refine Ev.step (f := fun k => (gatepostref01_Turned.f k (Q.map mkB)).bind fun t119 => (some (t119, true))) (fun k => ?_) ?_
    · simp only [gatepostref15_Labels.l0]
      rw [if_neg (by simp; omega)]
    · exact Ev.bind (turned_ref _ (by simpa using hl)) (Ev.now _)
  | succ d ih =>
    intro i hi hd hno
    obtain ⟨x, hx⟩ : ∃ x, Q[i]? = some x := ⟨Q[i]'(by omega), List.getElem?_eq_getElem (by omega)⟩
    obtain ⟨hlt, hg⟩ := List.getElem?_eq_some_iff.1 hx
    by_cases he : x = []
    · refine Ev.step (f := fun _ => some (([] : List ByteArray), false)) (fun k => ?_) ?_
      · simp only [gatepostref15_Labels.l0]
        rw [if_pos (by simp; omega), if_pos (by omega), rdOf_map Q i x hx, if_pos ((mkB_nil_iff x).2 he)]
      · rw [if_pos (by rw [← he]; exact List.mem_of_getElem? hx)]
        exact Ev.now _
    · have h := ih (i + 1) (by omega) (by omega) (by
        rw [List.take_succ_eq_append_getElem hlt, hg]
        intro hm
        rcases List.mem_append.1 hm with hm | hm
        · exact hno hm
        · simp only [List.mem_singleton] at hm; exact he hm.symm)
      refine Ev.step (f := fun k => gatepostref15_Labels.l0 k (Q.map mkB) ((i + 1 : Nat) : Int)) (fun k => ?_) h
      simp only [gatepostref15_Labels.l0]
      rw [if_pos (by simp; omega), if_pos (by omega), rdOf_map Q i x hx, if_neg (fun e => he ((mkB_nil_iff x).1 e)), wrap_in (by omega) (by omega)]
      rfl
theorem labels_j1 (Q : List (List UInt8)) (hl : Q.length ≤ 1000) : Ev (fun k => gatepostref15_Labels.j1 k (Q.map mkB)) (labP (if [] ∈ Q then none else some (Q.map mkB).reverse)) := by
  refine Ev.step (f := fun k => gatepostref15_Labels.l0 k (Q.map mkB) ((0 : Nat) : Int)) (fun k => ?_) (labels_l0 Q hl Q.length 0 (Nat.zero_le _) rfl (by simp))
  simp only [gatepostref15_Labels.j1]
  rfl
theorem labels_ref (s : ByteArray) (hs : s.size ≤ 900) : Ev (fun k => gatepostref15_Labels.f k s) (labP (labelsL s)) := by
  unfold gatepostref15_Labels.f
  have h46 : (46 : Int) = ((46 : UInt8).toNat : Int) := rfl
  rw [h46]
  refine Ev.bind (split_ref s 46 (by omega)) ?_
  have hp := splitL_pos 46 s.data.toList
  have hl := splitL_length 46 s.data.toList
  have hz : s.data.toList.length = s.size := len_data s
  have hat := last_at (d := []) hp
  unfold labelsL
  have hQ : partsL s.data.toList = if 1 < (splitL 46 s.data.toList).length ∧ (splitL 46 s.data.toList).getLastD [] = [] then (splitL 46 s.data.toList).dropLast else splitL 46 s.data.toList := rfl
  generalize partsL s.data.toList = Q at hQ ⊢
  generalize splitL 46 s.data.toList = L at hp hl hat hQ ⊢
  rw [List.length_map]
  by_cases h1 : 1 < L.length
  · have hw : wrap64 ((L.length : Int) - 1) = ((L.length - 1 : Nat) : Int) := by rw [wrap_in (by omega) (by omega)]; omega
    rw [hw]
    refine evP (by omega) (evP (by omega) (evP (by omega) ?_))
    rw [rdOf_map L _ _ hat]
    by_cases h2 : L.getLastD [] = []
    · rw [if_pos ⟨h1, h2⟩] at hQ
      rw [hQ]
      have hb : ((mkB (L.getLastD [])).toList == ([] : List UInt8)) = true := by rw [(mkB_nil_iff _).2 h2]; rfl
      rw [hb]
      refine Ev.step (f := fun k => gatepostref15_Labels.j1 k (L.dropLast.map mkB)) (fun k => ?_) (labels_j1 _ (by rw [List.length_dropLast]; omega))
      simp only [gatepostref15_Labels.j0]
      rw [if_pos trivial, List.length_map, hw, if_pos (by omega), if_pos (by omega), Int.toNat_natCast, ← List.map_take, List.dropLast_eq_take]
    · rw [if_neg (fun e => h2 e.2)] at hQ
      rw [hQ]
      have hb : ((mkB (L.getLastD [])).toList == ([] : List UInt8)) = false := by
        rw [beq_eq_false_iff_ne]
        exact fun e => h2 ((mkB_nil_iff _).1 e)
      rw [hb]
      refine Ev.step (f := fun k => gatepostref15_Labels.j1 k (L.map mkB)) (fun k => ?_) (labels_j1 _ (by omega))
      simp only [gatepostref15_Labels.j0]
      rw [if_neg (by decide)]
  · refine evN (by omega) ?_
    rw [if_neg (fun e => h1 e.1)] at hQ
    rw [hQ]
    refine Ev.step (f := fun k => gatepostref15_Labels.j1 k (L.map mkB)) (fun k => ?_) (labels_j1 _ (by omega))
    simp only [gatepostref15_Labels.j0]
    rw [if_neg (by decide)]

/-! ### last -/
def dotted (s : ByteArray) : Bool := Lib.hasSuffix s.data.toList [46]
/-- The last k labels of a name, as a text; a dot behind them, if there is one behind the name. -/
def joinT (L : List ByteArray) : List UInt8 := Lib.join (L.reverse.map (·.data.toList)) [46]
def lastT (name : ByteArray) (L : List ByteArray) (k : Nat) : List UInt8 := joinT (L.take k) ++ (if 0 < k ∧ dotted name = true then [46] else [])
theorem join_front (x : List UInt8) {r : List (List UInt8)} (h : r ≠ []) : Lib.join (x :: r) [46] = x ++ 46 :: Lib.join r [46] := by
  obtain ⟨y, r, rfl⟩ := List.exists_cons_of_ne_nil h
  rw [Lib.join_cons, Lib.join_cons]
  simp [Lib.joinTail]
theorem joinT_snoc (L : List ByteArray) (x : ByteArray) : joinT (L ++ [x]) = x.data.toList ++ (if L = [] then [] else 46 :: joinT L) := by
  unfold joinT
  rw [List.reverse_append]
  by_cases h : L = []
  · subst h
    simp [Lib.join_one]
  · rw [if_neg h]
    exact join_front _ (by simpa using h)
theorem joinT_len (L : List ByteArray) (m : Nat) (hm : ∀ x ∈ L, x.size ≤ m) : (joinT L).length ≤ L.length * (m + 1) := by
  have key : ∀ (n : Nat), (joinT (L.take n)).length ≤ n * (m + 1) := by
    intro n
    induction n with
    | zero => simp [joinT]; rfl
    | succ n ih =>
      by_cases h : n < L.length
      · rw [List.take_succ_eq_append_getElem h, joinT_snoc]
        have h1 := hm L[n] (List.getElem_mem h)
        have h2 : (L[n]).data.toList.length = (L[n]).size := by simp
        rw [Nat.succ_mul]
        rw [List.length_append]
        split
        · simp; omega
        · simp; omega
      · rw [List.take_of_length_le (by omega)]
        rw [List.take_of_length_le (by omega)] at ih
        rw [Nat.succ_mul]; omega
  have := key L.length
  rwa [List.take_length] at this
theorem dotted_at {s : ByteArray} {c : UInt8} (h : s.data.toList[s.size - 1]? = some c) (h0 : 0 < s.size) : dotted s = decide (c = 46) := by
  have hl : s.data.toList.length = s.size := len_data s
  unfold dotted
  generalize s.data.toList = l at h hl
  have hne : l ≠ [] := by rintro rfl; simp at hl; omega
  have hc : l.getLast hne = c := by
    rw [List.getLast_eq_getElem]
    rw [← hl] at h
    exact (List.getElem?_eq_some_iff.1 h).2
  rw [← List.dropLast_concat_getLast hne, hc]
  unfold Lib.hasSuffix List.isSuffixOf
  rw [List.reverse_append, List.reverse_singleton, List.reverse_singleton, List.singleton_append, List.isPrefixOf, List.isPrefixOf_nil_left, Bool.and_true, Bool.eq_iff_iff, beq_iff_eq, decide_eq_true_eq]
  exact eq_comm
theorem mkB_append (a b : List UInt8) : mkB a ++ mkB b = mkB (a ++ b) := by
  refine data_inj ?_
  rw [append_data, mkB_data, mkB_data, mkB_data]
theorem last_ev (name : ByteArray) (L : List ByteArray) (n : Nat) (hn : n ≤ L.length) (hl : L.length ≤ 1000) (hs : ∀ x ∈ L, x.size ≤ 1000) (h1 : name.size ≤ 1000) (h0 : 0 < n → 0 < name.size) : ∀ (d i : Nat), i ≤ n → n - i = d →
    Ev (fun k => gatepostref17_last.l0 k name L n (mkB (joinT (L.take i))) i) (mkB (lastT name L n)) := by
  have hlen : ∀ i, (joinT (L.take i)).length ≤ 1001000 := fun i => by
    have h := joinT_len (L.take i) 1000 (fun x hx => hs x (List.mem_of_mem_take hx))
    have h2 : (L.take i).length * (1000 + 1) ≤ 1000 * 1001 := Nat.mul_le_mul_right 1001 (by rw [List.length_take]; omega)
    omega
  intro d
  induction d with
  | zero =>
    intro i hi hd
    have e : i = n := by omega
    subst e
    have hlen := hlen i
    by_cases hp : 0 < i
    · have hz := h0 hp
      obtain ⟨c, hc⟩ := byte_some (s := name) (i := name.size - 1) (by omega)
      have hdot := dotted_at hc hz
      have hw : wrap64 ((name.size : Int) - 1) = ((name.size - 1 : Nat) : Int) := by rw [wrap_in (by omega) (by omega)]; omega
      refine Ev.step (f := fun k => some (mkB (lastT name L i))) (fun k => ?_) (Ev.now _)
      simp only [gatepostref17_last.l0]
      rw [if_neg (by omega), if_pos (by omega), hw, if_pos (by omega), if_pos (by omega), bt_nat name _ c hc]
      unfold lastT
      by_cases h46 : c = 46
      · rw [if_pos (by rw [h46]; rfl), if_pos (by rw [mkB_size]; omega), if_pos ⟨hp, by rw [hdot]; simpa using h46⟩]
        rw [show (⟨#[46]⟩ : ByteArray) = mkB [46] from rfl, mkB_append]
      · rw [if_neg (fun e => h46 (UInt8.toNat_inj.1 (show c.toNat = 46 by omega))), if_neg (fun e => h46 (by have := e.2; rw [hdot] at this; simpa using this)), List.append_nil]
    · refine Ev.step (f := fun k => some (mkB (lastT name L i))) (fun k => ?_) (Ev.now _)
      simp only [gatepostref17_last.l0]
      rw [if_neg (by omega), if_neg (by omega)]
      unfold lastT
      rw [if_neg (fun e => hp e.1), List.append_nil]
  | succ d ih =>
    intro i hi hd
    have h := ih (i + 1) (by omega) (by omega)
    have hlen := hlen i
    obtain ⟨x, hx⟩ : ∃ x, L[i]? = some x := ⟨L[i]'(by omega), List.getElem?_eq_getElem (by omega)⟩
    obtain ⟨hlt, hg⟩ := List.getElem?_eq_some_iff.1 hx
    have hxs := hs x (List.mem_of_getElem? hx)
    have hstep : joinT (L.take (i + 1)) = x.data.toList ++ (if i = 0 then [] else 46 :: joinT (L.take i)) := by
      rw [List.take_succ_eq_append_getElem hlt, hg, joinT_snoc]
      congr 1
      by_cases hi0 : i = 0
      · subst hi0; simp
      · rw [if_neg hi0, if_neg (fun e => hi0 (by have := congrArg List.length e; rw [List.length_take, List.length_nil] at this; omega))]
    by_cases hp : 0 < i
    · rw [if_neg (by omega)] at hstep
      refine Ev.step (f := fun k => gatepostref17_last.l0 k name L n (mkB (joinT (L.take (i + 1)))) ((i + 1 : Nat) : Int)) (fun k => ?_) h
      simp only [gatepostref17_last.l0]
      rw [if_pos (by omega), if_pos (by omega), if_pos (by rw [mkB_size]; omega), if_pos (by omega), if_pos (by omega), rdOf_at L i x hx]
      have hsz : ((⟨#[46]⟩ : ByteArray) ++ mkB (joinT (L.take i))).size ≤ 1001001 := by
        rw [show (⟨#[46]⟩ : ByteArray) = mkB [46] from rfl, mkB_append, mkB_size, List.length_append, List.length_singleton]; omega
      rw [show (⟨#[46]⟩ : ByteArray) = mkB [46] from rfl, mkB_append] at hsz ⊢
      rw [if_pos (by omega), wrap_in (by omega) (by omega)]
      have e : x ++ mkB ([46] ++ joinT (L.take i)) = mkB (joinT (L.take (i + 1))) := by
        rw [hstep]
        conv => lhs; rw [← mkB_of x]
        rw [mkB_append]
        rfl
      rw [e]
      rfl
    · have hi0 : i = 0 := by omega
      rw [if_pos hi0] at hstep
      refine Ev.step (f := fun k => gatepostref17_last.l0 k name L n (mkB (joinT (L.take (i + 1)))) ((i + 1 : Nat) : Int)) (fun k => ?_) h
      simp only [gatepostref17_last.l0]
      rw [if_pos (by omega), if_neg (by omega), if_pos (by omega), if_pos (by omega), rdOf_at L i x hx, if_pos (by rw [mkB_size]; omega), wrap_in (by omega) (by omega)]
      have e : x ++ mkB (joinT (L.take i)) = mkB (joinT (L.take (i + 1))) := by
        rw [hstep, hi0]
        have e : mkB (joinT (L.take 0)) = mkB [] := rfl
        rw [e]
        conv => lhs; rw [← mkB_of x]
        rw [mkB_append]
      rw [e]
      rfl
theorem last_ref (name : ByteArray) (L : List ByteArray) (n : Nat) (hn : n ≤ L.length) (hl : L.length ≤ 1000) (hs : ∀ x ∈ L, x.size ≤ 1000) (h1 : name.size ≤ 1000) (h0 : 0 < n → 0 < name.size) :
    Ev (fun k => gatepostref17_last.f k name L n) (mkB (lastT name L n)) := by
  have h := last_ev name L n hn hl hs h1 h0 n 0 (Nat.zero_le _) rfl
  exact h
end Go.Proofs.YtgljkgkmbfhgiaaDoor

set_option maxRecDepth 100000
namespace Go.Proofs.YtgljkgkmbfhgiaaDoor
open Go.RowKit Go.Proofs.YtgljkgkmbfhgiaaDoorW.PrintWords Go.Proofs.YtgljkgkmbfhgiaaDoor.PSite Go.Proofs.YtgljkgkmbfhgiaaDoor.Plain Four Rec

theorem strs_flat (l : List ByteArray) : l.flatMap strC = l.map Value.string := by
  induction l with
  | nil => rfl
  | cons x l ih => rw [List.flatMap_cons, ih]; rfl
theorem RowS.toC {w : World} {A : Option Addr} {l : List ByteArray} (h : RowAt strC 1 w A l) (hl : l.length ≤ 1000000) : Kd.C Kd.string w A l.length l := by
  refine ⟨rfl, by omega, fun hn => ?_⟩
  obtain ⟨b, off, rfl, -⟩ := h 0 _ (List.getElem?_eq_getElem hn)
  refine ⟨_, rfl, fun j p hp => ⟨[.string p], rfl, rfl, fun i u hu => ?_⟩⟩
  cases i with
  | zero =>
    simp only [List.getElem?_cons_zero, Option.some.injEq] at hu
    subst hu
    obtain ⟨b', off', e, hc⟩ := h j p hp
    cases e
    have := hc 0 (.string p) rfl
    rwa [show ((⟨b, off, none⟩ : Addr).add (j * Kd.string.sz + 0)) = ⟨b, off + j * 1 + 0, none⟩ by
      show ((⟨b, off, none⟩ : Addr).add (j * 1 + 0)) = _
      unfold Addr.add; split <;> simp_all]
  | succ i => simp at hu
theorem OwnS.ofR {w : World} {B : Nat} {ok : Nat → Prop} {v : Value} {l : List ByteArray} (h : Kd.R Kd.string 9 w B ok v l) : OwnR w B 9 1 strC v l := by
  have := Kd.own_of_R h
  unfold OwnR
  rw [strs_flat]
  exact this
theorem reflabels_calls (s : ByteArray) (hs : s.size ≤ 900) (w : World) :
    Calls Tryd.prog 34 #[.string s] w fun e w' => ∃ A c, e = .returned (.tuple #[.slice A (labP (labelsL s)).1.length c, .bool (labP (labelsL s)).2]) ∧ RowAt strC 1 w' A (labP (labelsL s)).1 ∧ (labP (labelsL s)).1.length ≤ c ∧ c ≤ maxLen ∧ Below w.heap.size w w' := by
  obtain ⟨k, hk⟩ := labels_ref s hs
  refine (gatepostref15_Labels.calls k s _ _ w (hk k (Nat.le_refl _))).mono ?_
  rintro e w' ⟨v, rfl, hR, hb⟩
  obtain ⟨A, c, rfl, hr, hc, hm, -⟩ := (OwnS.ofR hR).row (fun _ => rfl)
  exact ⟨A, c, rfl, hr, hc, hm, hb⟩
theorem reflast_calls (name : ByteArray) (A : Option Addr) (c : Nat) (L : List ByteArray) (n : Nat) (w : World) (hr : RowAt strC 1 w A L) (hc : L.length ≤ c) (hn : n ≤ L.length) (hl : L.length ≤ 1000) (hs : ∀ x ∈ L, x.size ≤ 1000) (h1 : name.size ≤ 1000) (h0 : 0 < n → 0 < name.size) :
    Calls Tryd.prog 45 #[.string name, .slice A L.length c, .int .i64 n] w fun e w' => e = .returned (.string (mkB (lastT name L n))) ∧ Below w.heap.size w w' := by
  obtain ⟨k, hk⟩ := last_ref name L n hn hl hs h1 h0
  refine (gatepostref17_last.calls k name A c L n _ w (RowS.toC hr (by omega)) hc (hk k (Nat.le_refl _))).mono ?_
  rintro e w' ⟨rfl, hd⟩
  exact ⟨rfl, hd.below⟩

/-- slices.Clone of the first ones of a row that begins at a block's head. -/
theorem clone_calls (g n c : Nat) (L : List ByteArray) (w : World) (h : RowAt strC 1 w (some ⟨g, 0, none⟩) L) (hn : n ≤ L.length) (hl : L.length ≤ 1000) :
    Calls Tryd.prog 61 #[.slice (some ⟨g, 0, none⟩) n c] w fun e w' => ∃ g' c', e = .returned (.slice (some ⟨g', 0, none⟩) n c') ∧ n ≤ c' ∧ c' ≤ maxLen ∧ w.heap.size ≤ g' ∧ g' < w'.heap.size ∧ RowAt strC 1 w' (some ⟨g', 0, none⟩) (L.take n) ∧ (∀ j, w'.frozen? ⟨g', j, none⟩ = false) ∧ Below w.heap.size w w' := by
  refine (Tryd.slices_Clone_string g 0 n c L w hn (by omega) (fun j hj => by
    rw [Nat.zero_add]
    exact row_cells h (by simp [hj]))).mono ?_
  rintro e w' ⟨v, rfl, ho, hne, hb⟩
  have hlen : (L.take n).length = n := by rw [List.length_take]; omega
  have hown : OwnR w' w.heap.size 9 1 strC v (L.take n) := by
    unfold OwnR
    rw [strs_flat, hlen]
    exact ho
  obtain ⟨A, c', rfl, hr, hc, hm, -⟩ := hown.row (fun _ => rfl)
  rcases ho.2 with ⟨hv, _⟩ | ⟨g', cap, cur, hv, hg, hh, r⟩
  · exact absurd hv hne
  · rw [hlen] at hv hc ⊢
    injection hv with hA _ hcap
    subst hA hcap
    refine ⟨g', c', rfl, hc, hm, hg, ?_, hr, fun j => ?_, hb⟩
    · exact (Array.getElem?_eq_some_iff.1 hh).1
    · unfold World.frozen?
      rw [hh]
      simp

theorem joinT_eq (L : List ByteArray) : joinT L = Lib.join (L.reverse.map (·.data.toList)) [46] := rfl
set_option maxHeartbeats 4000000 in
theorem told_calls (p0 p1 p2 g : Nat) (L : List ByteArray) (n : Nat) (h : HostV) (w : World) (hr : RowAt strC 1 w (some ⟨g, 0, none⟩) L) (hn : n ≤ L.length) (hl : L.length ≤ 1000) (hsz : ∀ x ∈ L, x.size ≤ 1000)
    (c0 : w.cell? ⟨p0, 0, none⟩ = some (.slice (some ⟨g, 0, none⟩) L.length L.length)) (c1 : w.cell? ⟨p1, 0, none⟩ = some (.int .i64 (n : Int))) (c2 : w.cell? ⟨p2, 1, none⟩ = some (.string h.name)) (hs : h.name.size ≤ 1000) :
    Calls Tryd.prog 60 #[.pointer (some ⟨p0, 0, none⟩), .pointer (some ⟨p1, 0, none⟩), .pointer (some ⟨p2, 0, none⟩)] w fun e w' => e = .returned (.string (mkB (lastT h.name L n))) ∧ Below w.heap.size w w' := by
  have hlt0 := World.block_lt_of_cell? w _ c0
  have hlt1 := World.block_lt_of_cell? w _ c1
  have hlt2 := World.block_lt_of_cell? w _ c2
  have HC := Lib.hid (clone_calls g n n L w hr hn hl)
  have HLEN := Lib.hid (joinT_len (L.take n) 1000 (fun x hx => hsz x (List.mem_of_mem_take hx)))
  have hmul : (L.take n).length * (1000 + 1) ≤ 1000 * 1001 := Nat.mul_le_mul_right 1001 (by rw [List.length_take]; omega)
  have HLE := Lib.hid (show (joinT (L.take n)).length ≤ 1001000 by have := HLEN.out; omega)
  have HTK := Lib.hid (show (L.take n).length = n by rw [List.length_take]; omega)
  clear hr hmul HLEN
  by_cases hn0 : 0 < n
  · have HJ := Lib.hid (show lastT h.name L n = joinT (L.take n) ++ (if dotted h.name = true then [46] else []) by
      unfold lastT
      by_cases hd : dotted h.name = true
      · rw [if_pos ⟨hn0, hd⟩, if_pos hd]
      · rw [if_neg (fun e => hd e.2), if_neg hd])
    have hgt : (decide ((n : Int) > 0)) = true := by simpa using hn0
    go_enter Tryd.func60, Tryd.ntmps60
    go_wp2_with fail
    refine HC.out.mono ?_
    rintro e w1 ⟨g', c', rfl, hc1, hc2, hg1, hg2, hrow, hfr, hb1⟩
    clear HC
    have HB1 := Lib.hid hb1
    have k1 := (hb1.cell hlt1).trans c1
    have k2 := (hb1.cell hlt2).trans c2
    have hrev := reverse_calls g' c' (L.take n) w1 hrow (fun j _ => hfr j) (by rw [HTK.out]; omega)
    rw [HTK.out] at hrev
    have HREV := Lib.hid hrev
    have HG := Lib.hid hg1
    have HG2 := Lib.hid hg2
    have HC1 := Lib.hid hc1
    clear hrow hfr hb1 hrev hg1 hc1 hg2 c0 c1 c2
    go_wp2_with fail
    refine HREV.out.mono ?_
    rintro e w2 ⟨rfl, hrow, hbb, hb2⟩
    have HB2 := Lib.hid (hbb _ _ HG.out HB1.out)
    have k1' := (hb2.cell (p := ⟨p1, 0, none⟩) (by have := HG.out; show p1 < g'; omega)).trans k1
    have k2' := (hb2.cell (p := ⟨p2, 1, none⟩) (by have := HG.out; show p2 < g'; omega)).trans k2
    have hjoin := Tryd.strings_Join g' 0 c' (L.take n).reverse ⟨#[46]⟩ w2 (fun j x hx => by rw [Nat.zero_add]; exact row_cells hrow hx) (by have := HG2.out; have := hb2.size; omega) (by rw [List.length_reverse, HTK.out]; omega) (by rw [List.length_reverse, HTK.out]; exact HC1.out) (by rw [show (⟨#[46]⟩ : ByteArray).data.toList = [46] from rfl, ← joinT_eq]; have := HLE.out; omega)
    rw [show (⟨#[46]⟩ : ByteArray).data.toList = [46] from rfl, ← joinT_eq, List.length_reverse, HTK.out] at hjoin
    have HJOIN := Lib.hid hjoin
    clear hrow hbb hb2 hjoin k1 k2 HREV HB1
    go_wp2_with fail
    refine HJOIN.out.mono ?_
    rintro e w3 ⟨rfl, hb3⟩
    have HB3 := Lib.hid (belowOn HB2.out HB2.out.size hb3)
    have k1 := (hb3.cell (World.block_lt_of_cell? w2 _ k1')).trans k1'
    have k2 := (hb3.cell (World.block_lt_of_cell? w2 _ k2')).trans k2'
    obtain ⟨T, hT⟩ : ∃ T, T = mkB (joinT (L.take n)) := ⟨_, rfl⟩
    have hT2 : (⟨(joinT (L.take n)).toArray⟩ : ByteArray) = T := hT.symm
    rw [hT2]
    have hTs : T.size ≤ 1001000 := by rw [hT, mkB_size]; exact HLE.out
    have hadd := fun W : World => run_string_add_sum (P := Tryd.prog) W T ⟨#[46]⟩ (by rw [show (⟨#[46]⟩ : ByteArray).size = 1 from rfl]; omega)
    have HT := Lib.hid hT
    have hsuf := Tryd.strings_HasSuffix h.name ⟨#[46]⟩ w3 (by omega)
    rw [show Lib.hasSuffix h.name.data.toList (⟨#[46]⟩ : ByteArray).data.toList = dotted h.name from rfl] at hsuf
    have HSUF := Lib.hid hsuf
    clear hb3 k1' k2' HJOIN hT hT2 hsuf HB2 hTs
    cases hd : dotted h.name
    · have hres : mkB (lastT h.name L n) = T := by rw [HJ.out, hd, HT.out]; simp
      rw [hd] at HSUF
      go_wp2_with fail
      refine HSUF.out.mono ?_
      rintro e w4 ⟨rfl, rfl⟩
      go_wp2_with fail
      go_ret
      exact ⟨by rw [hres]; rfl, HB3.out⟩
    · have hres : mkB (lastT h.name L n) = T ++ ⟨#[46]⟩ := by
        rw [HJ.out, hd, HT.out, if_pos rfl, ← mkB_append]
        rfl
      rw [hd] at HSUF
      go_wp2_with fail
      refine HSUF.out.mono ?_
      rintro e w4 ⟨rfl, rfl⟩
      go_wp2_with fail
      go_ret
      exact ⟨by rw [hres]; rfl, HB3.out⟩
  · have hn00 : n = 0 := by omega
    subst hn00
    have HJ := Lib.hid (show lastT h.name L 0 = [] by unfold lastT; rw [if_neg (by simp)]; rfl)
    have e0 : L.take 0 = [] := rfl
    go_enter Tryd.func60, Tryd.ntmps60
    go_wp2_with fail
    refine HC.out.mono ?_
    rintro e w1 ⟨g', c', rfl, hc1, hc2, hg1, hg2, hrow, hfr, hb1⟩
    clear HC
    have HB1 := Lib.hid hb1
    have k1 := (hb1.cell hlt1).trans c1
    have hrev := reverse_calls g' c' (L.take 0) w1 hrow (fun j _ => hfr j) (by rw [HTK.out]; omega)
    rw [HTK.out] at hrev
    have HREV := Lib.hid hrev
    have HG := Lib.hid hg1
    clear hrow hfr hb1 hrev hg1 hc1 hg2 c0 c1 c2
    simp only [Int.cast_ofNat_Int, Int.ofNat_zero] at k1 HREV ⊢
    go_wp2_with fail
    refine HREV.out.mono ?_
    rintro e w2 ⟨rfl, hrow, hbb, hb2⟩
    have HB2 := Lib.hid (hbb _ _ HG.out HB1.out)
    have k1' := (hb2.cell (p := ⟨p1, 0, none⟩) (by have := HG.out; show p1 < g'; omega)).trans k1
    have HJOIN := Lib.hid (Tryd.strings_Join_none (some ⟨g', 0, none⟩) c' ⟨#[46]⟩ w2)
    clear hrow hbb hb2 k1 HREV HB1
    go_wp2_with fail
    refine HJOIN.out.mono ?_
    rintro e w3 ⟨rfl, rfl⟩
    go_wp2_with fail
    go_ret
    exact ⟨by rw [HJ.out]; rfl, HB2.out⟩
end Go.Proofs.YtgljkgkmbfhgiaaDoor
