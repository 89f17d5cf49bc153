/- Code points as letters and figures, plain: a number's digits, a list encoded, a text decoded; there and back, and back and there. -/
import Derived.Test.YtbeibfhnbnmocaaDoorProg
set_option linter.unusedVariables false
set_option linter.unusedSimpArgs false
namespace Go.Proofs.YtbeibfhnbnmocaaDoor.Puny

def thr (k bias : Nat) : Nat := min (max (k - bias) 1) 26
theorem thr_pos (k b : Nat) : 1 ≤ thr k b := by unfold thr; omega
theorem thr_le (k b : Nat) : thr k b ≤ 26 := by unfold thr; omega
theorem shrink {q k b : Nat} (h : ¬ q < thr k b) : (q - thr k b) / (36 - thr k b) < q := by
  have := thr_pos k b
  have h2 := Nat.div_le_self (q - thr k b) (36 - thr k b)
  omega
/-- A number's digits. -/
def tell (q bias k : Nat) : List Nat :=
  if h : q < thr k bias then [q] else (thr k bias + (q - thr k bias) % (36 - thr k bias)) :: tell ((q - thr k bias) / (36 - thr k bias)) bias (k + 36)
termination_by q
decreasing_by exact shrink h
def adaptLoop (d k : Nat) : Nat := if h : d > 455 then adaptLoop (d / 35) (k + 36) else k + 36 * d / (d + 38)
termination_by d
decreasing_by omega
def adapt (delta many : Nat) (once : Bool) : Nat :=
  let d := if once then delta / 700 else delta / 2
  adaptLoop (d + d / many) 0
def digit (n : Nat) : UInt8 := if n < 26 then UInt8.ofNat (97 + n) else UInt8.ofNat (22 + n)
def small (c : UInt8) : UInt8 := if 65 ≤ c ∧ c ≤ 90 then c + 32 else c
def value (c : UInt8) : Option Nat :=
  if 97 ≤ c ∧ c ≤ 122 then some (c.toNat - 97) else if 65 ≤ c ∧ c ≤ 90 then some (c.toNat - 65) else if 48 ≤ c ∧ c ≤ 57 then some (c.toNat - 22) else none
theorem value_digit : ∀ d, d < 36 → value (digit d) = some d := by decide
theorem value_facts : ∀ c : UInt8, ∀ d, value c = some d → d < 36 ∧ small c = digit d := by
  have : ∀ n : Nat, n < 256 → ∀ d, value (UInt8.ofNat n) = some d → d < 36 ∧ small (UInt8.ofNat n) = digit d := by
    have h : ∀ n : Nat, n < 256 → ((value (UInt8.ofNat n)).all fun d => decide (d < 36 ∧ small (UInt8.ofNat n) = digit d)) = true := by decide +kernel
    intro n hn d hd
    have := h n hn
    rw [hd] at this
    simpa using this
  intro c d hd
  have h := this c.toNat c.toNat_lt
  rw [UInt8.ofNat_toNat] at h
  exact h d hd
def readW : List UInt8 → Nat → Nat → Nat → Nat → Option (Nat × List UInt8)
  | [], _, _, _, _ => none
  | c :: s, i, w, k, bias =>
    match value c with
    | none => none
    | some d => if i + d * w > 1099511627776 then none else if d < thr k bias then some (i + d * w, s) else if w * (36 - thr k bias) > 1099511627776 then none else readW s (i + d * w) (w * (36 - thr k bias)) (k + 36) bias
theorem tell_lt (q bias k : Nat) : ∀ d ∈ tell q bias k, d < 36 := by
  fun_induction tell q bias k with
  | case1 q k h => intro d hd; simp only [List.mem_singleton] at hd; have := thr_le k bias; omega
  | case2 q k h ih =>
    intro d hd
    rcases List.mem_cons.1 hd with rfl | hd
    · have := thr_le k bias
      have := Nat.mod_lt (q - thr k bias) (show 36 - thr k bias > 0 by omega)
      omega
    · exact ih d hd
theorem readW_tell (q bias k : Nat) : ∀ (i w : Nat) (T : List UInt8), 0 < w → i + q * w ≤ 17179869184 → readW ((tell q bias k).map digit ++ T) i w k bias = some (i + q * w, T) := by
  fun_induction tell q bias k with
  | case1 q k h =>
    intro i w T hw hq
    have := thr_le k bias
    simp only [List.map_cons, List.map_nil, List.cons_append, List.nil_append, readW]
    rw [value_digit q (by omega)]
    dsimp only
    rw [if_neg (by omega), if_pos h]
  | case2 q k h ih =>
    intro i w T hw hq
    have h1 := thr_pos k bias
    have h2 := thr_le k bias
    generalize ht : thr k bias = t at *
    have hm := Nat.mod_lt (q - t) (show 36 - t > 0 by omega)
    have hdm := Nat.div_add_mod (q - t) (36 - t)
    simp only [List.map_cons, List.cons_append, readW]
    rw [value_digit _ (by omega)]
    dsimp only
    generalize hr : (q - t) % (36 - t) = r at *
    generalize hx : (q - t) / (36 - t) = x at *
    have hqe : q = t + r + (36 - t) * x := by omega
    have e1 : q * w = (t + r) * w + x * (w * (36 - t)) := by
      rw [hqe, Nat.add_mul, Nat.mul_comm (36 - t) x, Nat.mul_assoc, Nat.mul_comm (36 - t) w]
    have hwq : w ≤ q * w := by
      calc w = 1 * w := by omega
        _ ≤ q * w := Nat.mul_le_mul_right w (by omega)
    have hw35 : w * (36 - t) ≤ w * 35 := Nat.mul_le_mul_left w (by omega)
    rw [ht, if_neg (by omega), if_neg (by omega), if_neg (by omega)]
    rw [ih (i + (t + r) * w) (w * (36 - t)) T (Nat.mul_pos hw (by omega)) (by omega)]
    congr 2
    omega
theorem readW_told (bias : Nat) : ∀ (s : List UInt8) (i w k nx : Nat) (s' : List UInt8), readW s i w k bias = some (nx, s') → ∃ (C : List UInt8) (q : Nat), s = C ++ s' ∧ C ≠ [] ∧ nx = i + q * w ∧ C.map small = (tell q bias k).map digit
  | [], _, _, _, _, _, h => by simp [readW] at h
  | c :: s, i, w, k, nx, s', h => by
    rw [readW] at h
    cases hv : value c with
    | none => rw [hv] at h; cases h
    | some d =>
      rw [hv] at h
      obtain ⟨hd, hs⟩ := value_facts c d hv
      simp only at h
      split at h
      · cases h
      · split at h
        · rename_i h1 h2
          simp only [Option.some.injEq, Prod.mk.injEq] at h
          obtain ⟨rfl, rfl⟩ := h
          refine ⟨[c], d, rfl, by simp, rfl, ?_⟩
          rw [tell, dif_pos h2]
          simp [hs]
        · split at h
          · cases h
          · rename_i h1 h2 h3
            obtain ⟨C, q, rfl, hC, hn, hm⟩ := readW_told bias s _ _ _ _ _ h
            have t1 := thr_pos k bias
            have t2 := thr_le k bias
            refine ⟨c :: C, d + q * (36 - thr k bias), rfl, by simp, ?_, ?_⟩
            · rw [hn, Nat.add_mul, Nat.mul_assoc, Nat.mul_comm w, Nat.add_assoc]
            · rw [tell]
              generalize thr k bias = t at *
              have hge : ¬ d + q * (36 - t) < t := by omega
              have e : d + q * (36 - t) - t = (d - t) + q * (36 - t) := by omega
              rw [dif_neg hge, e, Nat.add_mul_mod_self_right, Nat.mod_eq_of_lt (by omega), Nat.add_mul_div_right _ _ (by omega), Nat.div_eq_of_lt (by omega)]
              rw [show t + (d - t) = d by omega, Nat.zero_add]
              simp [hs, hm]

def scalar (n : Nat) : Bool := decide (n < 0xD800) || (decide (0xDFFF < n) && decide (n ≤ 0x10FFFF))
def put (D : List Nat) (i n : Nat) : List Nat := D.take i ++ n :: D.drop i
def dec : Nat → List UInt8 → List Nat → Nat → Nat → Nat → Option (List Nat)
  | _, [], D, _, _, _ => some D
  | 0, _ :: _, _, _, _, _ => none
  | f + 1, c :: s, D, n, i, bias =>
    match readW (c :: s) i 1 36 bias with
    | none => none
    | some (nx, s') =>
      if scalar (n + nx / (D.length + 1)) then dec f s' (put D (nx % (D.length + 1)) (n + nx / (D.length + 1))) (n + nx / (D.length + 1)) (nx % (D.length + 1) + 1) (adapt (nx - i) (D.length + 1) (i == 0))
      else none
/-- One round: the rest of a list, by a number. -/
def scan (b0 n : Nat) : List Nat → Nat → Nat → Nat → List UInt8 × Nat × Nat × Nat
  | [], delta, bias, h => ([], delta, bias, h)
  | c :: Y, delta, bias, h =>
    if c < n then scan b0 n Y (delta + 1) bias h
    else if c = n then
      let r := scan b0 n Y 0 (adapt delta (h + 1) (h == b0)) (h + 1)
      ((tell delta bias 36).map digit ++ r.1, r.2)
    else scan b0 n Y delta bias h
def least (l : List Nat) (n : Nat) : Nat := l.foldl (fun m c => if n ≤ c ∧ c < m then c else m) 0x110000
def rounds : Nat → Nat → List Nat → Nat → Nat → Nat → Nat → List UInt8
  | 0, _, _, _, _, _, _ => []
  | f + 1, b0, l, n, delta, bias, h =>
    if h < l.length then
      let r := scan b0 (least l n) l (delta + (least l n - n) * (h + 1)) bias h
      r.1 ++ rounds f b0 l (least l n + 1) (r.2.1 + 1) r.2.2.1 r.2.2.2
    else []

def Dec (s : List UInt8) (D : List Nat) (n i bias : Nat) (R : Option (List Nat)) : Prop := ∀ f, s.length ≤ f → dec f s D n i bias = R
theorem Dec.nil (D : List Nat) (n i bias : Nat) : Dec [] D n i bias (some D) := fun f _ => by cases f <;> rfl
theorem Dec.step {s s' : List UInt8} {D : List Nat} {n i bias nx : Nat} {R : Option (List Nat)} (hr : readW s i 1 36 bias = some (nx, s')) (hs : scalar (n + nx / (D.length + 1)) = true)
    (h : Dec s' (put D (nx % (D.length + 1)) (n + nx / (D.length + 1))) (n + nx / (D.length + 1)) (nx % (D.length + 1) + 1) (adapt (nx - i) (D.length + 1) (i == 0)) R) : Dec s D n i bias R := by
  intro f hf
  obtain ⟨C, q, rfl, hC, -, -⟩ := readW_told _ _ _ _ _ _ _ hr
  obtain ⟨c, C, rfl⟩ := List.exists_cons_of_ne_nil hC
  obtain ⟨f, rfl⟩ : ∃ g, f = g + 1 := ⟨f - 1, by simp at hf; omega⟩
  simp only [List.cons_append] at hr ⊢
  rw [dec, hr]
  simp only [hs, if_true]
  exact h f (by simp at hf; omega)
theorem put_len (D : List Nat) (i n : Nat) : (put D i n).length = D.length + 1 := by simp [put]; omega
theorem put_append (A B : List Nat) (n : Nat) : put (A ++ B) A.length n = A ++ n :: B := by simp [put]

/-- What holds in the midst of a round: X of the list is done, Y is left. -/
structure Mid (b0 n : Nat) (X Y : List Nat) (delta h : Nat) (D : List Nat) (nL iL : Nat) : Prop where
  list : D = X.filter (· ≤ n) ++ Y.filter (· < n)
  many : h = D.length
  last : nL ≤ n
  sum : iL + delta = (n - nL) * (h + 1) + (X.filter (· ≤ n)).length
  once : iL = 0 ↔ h = b0
  room : D.length + Y.length ≤ 1000
theorem scan_back (b0 n : Nat) (hn : scalar n = true) : ∀ (Y X : List Nat) (delta bias h : Nat) (D : List Nat) (nL iL : Nat), Mid b0 n X Y delta h D nL iL → b0 ≤ h → (∀ c ∈ Y, scalar c = true) →
    ∀ (T : List UInt8) (R : Option (List Nat)), (∀ D' nL' iL', Mid b0 n (X ++ Y) [] (scan b0 n Y delta bias h).2.1 (scan b0 n Y delta bias h).2.2.2 D' nL' iL' → b0 ≤ (scan b0 n Y delta bias h).2.2.2 → Dec T D' nL' iL' (scan b0 n Y delta bias h).2.2.1 R) → Dec ((scan b0 n Y delta bias h).1 ++ T) D nL iL bias R
  | [], X, delta, bias, h, D, nL, iL, hM, hb, _, T, R, hT => by
    have := hT D nL iL
    simp only [scan, List.append_nil, List.nil_append] at this ⊢
    exact this hM hb
  | c :: Y, X, delta, bias, h, D, nL, iL, hM, hb, hY, T, R, hT => by
    have hc : scalar c = true := hY c (by simp)
    have hY' : ∀ c ∈ Y, scalar c = true := fun x hx => hY x (by simp [hx])
    have hroom := hM.room
    have hmn : n < 1114112 := by simp only [scalar, Bool.or_eq_true, Bool.and_eq_true, decide_eq_true_eq] at hn; omega
    rw [scan] at hT ⊢
    rw [show X ++ c :: Y = (X ++ [c]) ++ Y by simp] at hT
    by_cases h1 : c < n
    · rw [if_pos h1] at hT ⊢
      refine scan_back b0 n hn Y (X ++ [c]) (delta + 1) bias h D nL iL ⟨?_, hM.many, hM.last, ?_, hM.once, by simp at hroom; omega⟩ hb hY' T R hT
      · rw [hM.list]; simp [List.filter_append, h1, Nat.le_of_lt h1]
      · have := hM.sum
        simp only [List.filter_append, List.filter_cons, List.filter_nil, decide_eq_true_eq, Nat.le_of_lt h1, if_true, List.length_append, List.length_cons, List.length_nil]
        omega
    · rw [if_neg h1] at hT ⊢
      by_cases h2 : c = n
      · subst h2
        rw [if_pos rfl] at hT ⊢
        simp only at hT ⊢
        have hA := hM.list
        simp only [List.filter_cons, Nat.lt_irrefl, decide_false] at hA
        have hA2 : D = X.filter (· ≤ c) ++ Y.filter (· < c) := by simpa using hA
        have hpos : (X.filter (· ≤ c)).length < h + 1 := by rw [hM.many, hA2]; simp; omega
        have hsum := hM.sum
        have hmany := hM.many
        have hlast := hM.last
        have hdiv : (iL + delta) / (D.length + 1) = c - nL := by
          rw [hsum, ← hmany, Nat.add_comm, Nat.add_mul_div_right _ _ (by omega), Nat.div_eq_of_lt hpos, Nat.zero_add]
        have hmod : (iL + delta) % (D.length + 1) = (X.filter (· ≤ c)).length := by
          rw [hsum, ← hmany, Nat.add_comm, Nat.add_mul_mod_self_right, Nat.mod_eq_of_lt hpos]
        have hbig : iL + delta ≤ 1114112 * 1001 + 1001 := by
          rw [hsum]
          have : (c - nL) * (h + 1) ≤ 1114112 * 1001 := Nat.mul_le_mul (by omega) (by simp at hroom; omega)
          simp at hroom
          omega
        have hr := readW_tell delta bias 36 iL 1 ((scan b0 c Y 0 (adapt delta (h + 1) (h == b0)) (h + 1)).1 ++ T) (by omega) (by omega)
        rw [Nat.mul_one, ← List.append_assoc] at hr
        refine Dec.step hr (by rw [hdiv, show nL + (c - nL) = c by omega]; exact hc) ?_
        rw [hdiv, hmod, show nL + (c - nL) = c by omega]
        have hput : put D (X.filter (· ≤ c)).length c = X.filter (· ≤ c) ++ c :: Y.filter (· < c) := by rw [hA2, put_append]
        rw [hput]
        have hon : (iL == 0) = (h == b0) := by
          by_cases hh : h = b0
          · have := hM.once.2 hh
            subst this; simp [hh]
          · have : iL ≠ 0 := fun e => hh (hM.once.1 e)
            rw [beq_eq_false_iff_ne.2 this, beq_eq_false_iff_ne.2 hh]
        rw [hon, ← hmany, show iL + delta - iL = delta by omega]
        refine scan_back b0 c hn Y (X ++ [c]) 0 _ (h + 1) _ c _ ⟨?_, ?_, Nat.le_refl _, ?_, ?_, ?_⟩ (by omega) hY' T R hT
        · simp [List.filter_append]
        · rw [hmany, hA2]; simp; omega
        · simp [List.filter_append]
        · constructor
          · intro h; omega
          · intro h; omega
        · rw [hA2] at hroom; simp at hroom ⊢; omega
      · rw [if_neg h2] at hT ⊢
        have h3 : ¬ c ≤ n := by omega
        refine scan_back b0 n hn Y (X ++ [c]) delta bias h D nL iL ⟨?_, hM.many, hM.last, ?_, hM.once, by simp at hroom; omega⟩ hb hY' T R hT
        · rw [hM.list]; simp [List.filter_append, h1, h3]
        · have := hM.sum
          simp only [List.filter_append, List.filter_cons, List.filter_nil, decide_eq_true_eq, h3, if_false, List.append_nil]
          exact this

theorem least_spec (l : List Nat) (n : Nat) : (∀ c ∈ l, n ≤ c → least l n ≤ c) ∧ (least l n = 1114112 ∨ (least l n ∈ l ∧ n ≤ least l n)) ∧ least l n ≤ 1114112 := by
  have key : ∀ (l : List Nat) (m : Nat), (∀ c ∈ l, n ≤ c → l.foldl (fun m c => if n ≤ c ∧ c < m then c else m) m ≤ c) ∧ (l.foldl (fun m c => if n ≤ c ∧ c < m then c else m) m = m ∨ (l.foldl (fun m c => if n ≤ c ∧ c < m then c else m) m ∈ l ∧ n ≤ l.foldl (fun m c => if n ≤ c ∧ c < m then c else m) m)) ∧ l.foldl (fun m c => if n ≤ c ∧ c < m then c else m) m ≤ m := by
    intro l
    induction l with
    | nil => intro m; simp
    | cons a l ih =>
      intro m
      simp only [List.foldl_cons]
      obtain ⟨h1, h2, h3⟩ := ih (if n ≤ a ∧ a < m then a else m)
      have hle : (if n ≤ a ∧ a < m then a else m) ≤ m := by split <;> omega
      refine ⟨fun c hc hn => ?_, ?_, by omega⟩
      · rcases List.mem_cons.1 hc with rfl | hc
        · have : (if n ≤ c ∧ c < m then c else m) ≤ c := by split <;> omega
          omega
        · exact h1 c hc hn
      · rcases h2 with h2 | h2
        · by_cases ha : n ≤ a ∧ a < m
          · rw [if_pos ha] at h2 ⊢
            right
            rw [h2]
            exact ⟨by simp, ha.1⟩
          · rw [if_neg ha] at h2 ⊢
            left; exact h2
        · right; exact ⟨by simp [h2.1], h2.2⟩
  exact key l 1114112
theorem filter_lt_or {l : List Nat} {n : Nat} (h : (l.filter (· < n)).length < l.length) : ∃ c ∈ l, n ≤ c := by
  apply Classical.byContradiction
  intro hc
  have : l.filter (· < n) = l := List.filter_eq_self.2 fun c hcl => by
    have : ¬ n ≤ c := fun h => hc ⟨c, hcl, h⟩
    simp; omega
  rw [this] at h
  omega
theorem filter_grow {m : Nat} : ∀ {l : List Nat}, m ∈ l → (l.filter (· < m)).length < (l.filter (· ≤ m)).length
  | c :: l, h => by
    have hle : ∀ l : List Nat, (l.filter (· < m)).length ≤ (l.filter (· ≤ m)).length := by
      intro l
      induction l with
      | nil => simp
      | cons a l ih =>
        simp only [List.filter_cons]
        by_cases h1 : a < m
        · have h2 : a ≤ m := by omega
          simp [h1, h2, ih]
        · by_cases h2 : a ≤ m
          · simp [h1, h2]; omega
          · simp [h1, h2, ih]
    rcases List.mem_cons.1 h with rfl | h
    · have := hle l
      simp; omega
    · have := filter_grow h
      simp only [List.filter_cons]
      by_cases h1 : c < m
      · have h2 : c ≤ m := by omega
        simp [h1, h2, this]
      · by_cases h2 : c ≤ m
        · simp [h1, h2]; omega
        · simp [h1, h2, this]
theorem rounds_back (b0 : Nat) (l : List Nat) (hl : l.length ≤ 500) (hs : ∀ c ∈ l, scalar c = true) : ∀ (f n delta bias h : Nat) (D : List Nat) (nL iL : Nat), D = l.filter (· < n) → h = D.length → nL ≤ n → iL + delta = (n - nL) * (h + 1) → (iL = 0 ↔ h = b0) → b0 ≤ h → l.length - h < f → Dec (rounds f b0 l n delta bias h) D nL iL bias (some l)
  | 0, n, delta, bias, h, D, nL, iL, hD, hh, hnL, hsum, hon, hb, hf => by omega
  | f + 1, n, delta, bias, h, D, nL, iL, hD, hh, hnL, hsum, hon, hb, hf => by
    rw [rounds]
    by_cases hlt : h < l.length
    · rw [if_pos hlt]
      obtain ⟨hmin, hmem, htop⟩ := least_spec l n
      obtain ⟨c, hc, hnc⟩ := filter_lt_or (l := l) (n := n) (by rw [← hD, ← hh]; exact hlt)
      have hcs := hs c hc
      have hc2 : c < 1114112 := by simp only [scalar, Bool.or_eq_true, Bool.and_eq_true, decide_eq_true_eq] at hcs; omega
      have hm1 := hmin c hc hnc
      have hm : least l n ∈ l ∧ n ≤ least l n := by
        rcases hmem with h | h
        · omega
        · exact h
      generalize least l n = m at *
      have hDm : D = l.filter (· < m) := by
        rw [hD]
        apply List.filter_congr
        intro x hx
        by_cases h1 : x < n
        · simp [h1, Nat.lt_of_lt_of_le h1 hm.2]
        · have := hmin x hx (by omega)
          simp; omega
      have hDl : D.length ≤ l.length := by rw [hD]; exact List.length_filter_le _ _
      refine scan_back b0 m (hs m hm.1) l [] (delta + (m - n) * (h + 1)) bias h D nL iL ⟨?_, hh, by omega, ?_, hon, by omega⟩ hb hs _ _ ?_
      · rw [hDm]; simp
      · have : (m - nL) * (h + 1) = (n - nL) * (h + 1) + (m - n) * (h + 1) := by rw [← Nat.add_mul]; congr 1; omega
        simp only [List.filter_nil, List.length_nil, Nat.add_zero]
        omega
      · intro D' nL' iL' hM' hb'
        generalize (scan b0 m l (delta + (m - n) * (h + 1)) bias h) = r at *
        have h1 := hM'.list
        have h2 := hM'.many
        have h3 := hM'.last
        have h4 := hM'.sum
        simp only [List.nil_append, List.filter_nil, List.append_nil] at h1 h4
        have hgrow := filter_grow hm.1
        rw [← hDm, ← h1, ← h2, ← hh] at hgrow
        rw [← h1, ← h2] at h4
        refine rounds_back b0 l hl hs f (m + 1) (r.2.1 + 1) r.2.2.1 r.2.2.2 D' nL' iL' ?_ h2 (by omega) ?_ hM'.once hb' (by omega)
        · rw [h1]
          apply List.filter_congr
          intro x _
          simp only [decide_eq_decide]
          omega
        · rw [← Nat.add_assoc, h4, show m + 1 - nL' = (m - nL') + 1 by omega, Nat.succ_mul]
          omega
    · rw [if_neg hlt]
      have : D = l := by
        rw [hD]
        have h1 : (l.filter (· < n)).length = l.length := by
          have := List.length_filter_le (fun x => decide (x < n)) l
          rw [← hD, ← hh] at this ⊢
          omega
        exact List.filter_eq_self.2 (List.length_filter_eq_length_iff.1 h1)
      rw [this]
      exact Dec.nil _ _ _ _

theorem scan_pre (b0 n : Nat) : ∀ (Z Y : List Nat) (delta bias h : Nat), (∀ c ∈ Z, c ≠ n) → scan b0 n (Z ++ Y) delta bias h = scan b0 n Y (delta + (Z.filter (· < n)).length) bias h
  | [], Y, delta, bias, h, _ => by simp
  | c :: Z, Y, delta, bias, h, hz => by
    have hz' : ∀ c ∈ Z, c ≠ n := fun x hx => hz x (by simp [hx])
    have hc : c ≠ n := hz c (by simp)
    rw [List.cons_append, scan]
    by_cases h1 : c < n
    · rw [if_pos h1, scan_pre b0 n Z Y _ _ _ hz']
      simp only [List.filter_cons, h1, decide_true, if_true, List.length_cons]
      congr 1; omega
    · rw [if_neg h1, if_neg hc, scan_pre b0 n Z Y _ _ _ hz']
      simp [h1]
def cont (f b0 : Nat) (l : List Nat) (n : Nat) (Y : List Nat) (delta bias h : Nat) : List UInt8 :=
  (scan b0 n Y delta bias h).1 ++ rounds f b0 l (n + 1) ((scan b0 n Y delta bias h).2.1 + 1) (scan b0 n Y delta bias h).2.2.1 (scan b0 n Y delta bias h).2.2.2
theorem cont_pre (f b0 : Nat) (l : List Nat) (n : Nat) (Z Y : List Nat) (delta bias h : Nat) (hz : ∀ c ∈ Z, c ≠ n) : cont f b0 l n (Z ++ Y) delta bias h = cont f b0 l n Y (delta + (Z.filter (· < n)).length) bias h := by
  unfold cont; rw [scan_pre b0 n Z Y delta bias h hz]
theorem cont_hit (f b0 : Nat) (l : List Nat) (n : Nat) (Y : List Nat) (delta bias h : Nat) : cont f b0 l n (n :: Y) delta bias h = (tell delta bias 36).map digit ++ cont f b0 l n Y 0 (adapt delta (h + 1) (h == b0)) (h + 1) := by
  unfold cont
  rw [scan, if_neg (by omega), if_pos rfl]
  simp only [List.append_assoc]
theorem filter_le_lt {l : List Nat} {n : Nat} (h : ∀ c ∈ l.filter (· ≤ n), c < n) : l.filter (· < n) = l.filter (· ≤ n) := by
  apply List.filter_congr
  intro x hx
  by_cases h1 : x ≤ n
  · have := h x (List.mem_filter.2 ⟨hx, by simpa using h1⟩)
    simp [h1, this]
  · simp; omega
theorem ne_of_filter {l : List Nat} {n : Nat} (h : ∀ c ∈ l.filter (· ≤ n), c < n) : ∀ c ∈ l, c ≠ n := by
  rintro c hc rfl
  have := h c (List.mem_filter.2 ⟨hc, by simp⟩)
  omega
theorem dec_once (b0 : Nat) : ∀ (f : Nat) (s : List UInt8) (D : List Nat) (n i bias : Nat) (l : List Nat), dec f s D n i bias = some l → (∀ c ∈ D.take i, c ≤ n) → (∀ c ∈ D.drop i, c < n) → i ≤ D.length → (i = 0 ↔ D.length = b0) → b0 ≤ D.length →
    ∃ X Y, l = X ++ Y ∧ X.filter (· ≤ n) = D.take i ∧ Y.filter (· < n) = D.drop i ∧ D.length ≤ l.length ∧ ∀ g, l.length - D.length ≤ g → cont g b0 l n Y 0 bias D.length = s.map small := by
  intro f
  induction f with
  | zero =>
    intro s D n i bias l h h1 h2 h3 h4 h5
    cases s with
    | cons c s => simp [dec] at h
    | nil =>
      simp only [dec, Option.some.injEq] at h
      subst h
      refine ⟨D.take i, D.drop i, by simp, List.filter_eq_self.2 (by simpa using h1), List.filter_eq_self.2 (by simpa using h2), Nat.le_refl _, fun g hg => ?_⟩
      have := cont_pre g b0 D n (D.drop i) [] 0 bias D.length (fun c hc => by have := h2 c hc; omega)
      rw [List.append_nil] at this
      rw [this]
      simp only [cont, scan, List.nil_append, List.map_nil]
      cases g with
      | zero => rfl
      | succ g => rw [rounds, if_neg (by omega)]
  | succ f ih =>
    intro s D n i bias l h h1 h2 h3 h4 h5
    cases s with
    | nil =>
      simp only [dec, Option.some.injEq] at h
      subst h
      refine ⟨D.take i, D.drop i, by simp, List.filter_eq_self.2 (by simpa using h1), List.filter_eq_self.2 (by simpa using h2), Nat.le_refl _, fun g hg => ?_⟩
      have := cont_pre g b0 D n (D.drop i) [] 0 bias D.length (fun c hc => by have := h2 c hc; omega)
      rw [List.append_nil] at this
      rw [this]
      simp only [cont, scan, List.nil_append, List.map_nil]
      cases g with
      | zero => rfl
      | succ g => rw [rounds, if_neg (by omega)]
    | cons c s =>
      rw [dec] at h
      cases hr : readW (c :: s) i 1 36 bias with
      | none => rw [hr] at h; cases h
      | some r =>
        obtain ⟨nx, s'⟩ := r
        rw [hr] at h
        dsimp only at h
        split at h
        · obtain ⟨C, q, hs, hC, hnx, hmap⟩ := readW_told _ _ _ _ _ _ _ hr
          rw [Nat.mul_one] at hnx
          have hmodlt := Nat.mod_lt nx (show D.length + 1 > 0 by omega)
          have hdm := Nat.div_add_mod nx (D.length + 1)
          have hqi : nx - i = q := by omega
          rw [hqi] at h
          generalize hi' : nx % (D.length + 1) = i' at *
          generalize hk : nx / (D.length + 1) = k at *
          have hcase : k = 0 → i ≤ i' := by
            intro hk0
            rw [hk0, Nat.mul_zero] at hdm
            omega
          have hput := put_len D i' (n + k)
          have htake : (put D i' (n + k)).take (i' + 1) = D.take i' ++ [n + k] := by
            unfold put
            rw [List.take_append, List.take_of_length_le (by simp; omega)]
            simp [Nat.min_eq_left (show i' ≤ D.length by omega)]
          have hdrop : (put D i' (n + k)).drop (i' + 1) = D.drop i' := by
            unfold put
            rw [List.drop_append, List.drop_of_length_le (by simp; omega)]
            simp [Nat.min_eq_left (show i' ≤ D.length by omega)]
          have hall : ∀ c ∈ D, c ≤ n := by
            intro c hc
            rw [← List.take_append_drop i D] at hc
            rcases List.mem_append.1 hc with hc | hc
            · exact h1 c hc
            · exact Nat.le_of_lt (h2 c hc)
          have hd' : ∀ c ∈ D.drop i', c < n + k := by
            intro c hc
            by_cases hk0 : k = 0
            · have := hcase hk0
              rw [hk0]
              refine h2 c ?_
              rw [show i' = i + (i' - i) by omega, ← List.drop_drop] at hc
              exact List.mem_of_mem_drop hc
            · have := hall c (List.mem_of_mem_drop hc)
              omega
          obtain ⟨X', Y', hl, hX', hY', hlen, hcont⟩ := ih s' (put D i' (n + k)) (n + k) (i' + 1) _ l h (by
            rw [htake]
            intro c hc
            rcases List.mem_append.1 hc with hc | hc
            · have := hall c (List.mem_of_mem_take hc); omega
            · simp only [List.mem_singleton] at hc; omega) (by rw [hdrop]; exact hd') (by rw [hput]; omega) (by rw [hput]; constructor <;> intro <;> omega) (by rw [hput]; omega)
          rw [htake] at hX'
          rw [hdrop] at hY'
          rw [hput] at hlen hcont
          obtain ⟨X1, Xr, rfl, hX1, hXr⟩ := List.filter_eq_append_iff.1 hX'
          obtain ⟨X2, X3, rfl, hX2, -, hX3⟩ := List.filter_eq_cons_iff.1 hXr
          -- l = (X1 ++ X2) ++ (n + k) :: (X3 ++ Y')
          have hP : (X1 ++ X2).filter (· ≤ n + k) = D.take i' := by
            rw [List.filter_append, hX1, List.filter_eq_nil_iff.2 (by simpa using hX2), List.append_nil]
          have hQ : (X3 ++ Y').filter (· < n + k) = D.drop i' := by
            rw [List.filter_append, hY', List.filter_eq_nil_iff.2, List.nil_append]
            intro c hc
            have := List.filter_eq_nil_iff.1 hX3 c hc
            simp at this ⊢
            omega
          have hQc : ∀ g, l.length - (D.length + 1) ≤ g → cont g b0 l (n + k) (X3 ++ Y') 0 (adapt q (D.length + 1) (i == 0)) (D.length + 1) = s'.map small := by
            intro g hg
            rw [cont_pre _ _ _ _ X3 Y' _ _ _ (fun c hc => by
              have := List.filter_eq_nil_iff.1 hX3 c hc
              simp at this; omega)]
            have : X3.filter (· < n + k) = [] := List.filter_eq_nil_iff.2 fun c hc => by
              have := List.filter_eq_nil_iff.1 hX3 c hc
              simp at this ⊢; omega
            rw [this]
            exact hcont g hg
          have hl2 : l = (X1 ++ X2) ++ (n + k) :: (X3 ++ Y') := by rw [hl]; simp
          generalize X1 ++ X2 = P at *
          generalize X3 ++ Y' = Q at *
          clear hcont hX' hY' hX1 hXr hX2 hX3 ih hl
          have hon : (i == 0) = (D.length == b0) := by
            by_cases hh : i = 0
            · have := h4.1 hh
              simp [hh, this]
            · have : D.length ≠ b0 := fun e => hh (h4.2 e)
              rw [beq_eq_false_iff_ne.2 this, beq_eq_false_iff_ne.2 hh]
          have hsm : (c :: s).map small = (tell q bias 36).map digit ++ s'.map small := by rw [hs, List.map_append, hmap]
          by_cases hk0 : k = 0
          · have hii := hcase hk0
            subst hk0
            simp only [Nat.add_zero] at *
            have hsplit : D.take i' = D.take i ++ (D.drop i).take (i' - i) := by
              conv => lhs; rw [show i' = i + (i' - i) by omega, List.take_add]
            rw [hsplit] at hP
            obtain ⟨X, Z, rfl, hX, hZ⟩ := List.filter_eq_append_iff.1 hP
            have hZlt : ∀ c ∈ Z.filter (· ≤ n), c < n := by
              rw [hZ]
              intro c hc
              exact h2 c (List.mem_of_mem_take hc)
            refine ⟨X, Z ++ n :: Q, by rw [hl2]; simp, hX, ?_, by omega, fun g hg => ?_⟩
            · rw [List.filter_append, filter_le_lt hZlt, hZ, List.filter_cons, if_neg (by simp), hQ]
              rw [show D.drop i' = (D.drop i).drop (i' - i) by rw [List.drop_drop]; congr 1; omega]
              exact List.take_append_drop _ _
            · rw [cont_pre _ _ _ _ Z _ _ _ _ (ne_of_filter hZlt), filter_le_lt hZlt, hZ]
              have hz : 0 + ((D.drop i).take (i' - i)).length = q := by
                rw [List.length_take, List.length_drop]
                rw [Nat.mul_zero] at hdm
                omega
              rw [hz, cont_hit, ← hon, hQc g (by omega), hsm]
          · have hPlt : ∀ c ∈ P.filter (· ≤ n + k), c < n + k := by
              rw [hP]
              intro c hc
              have := hall c (List.mem_of_mem_take hc)
              omega
            have hle : l.filter (· ≤ n) = D := by
              have e1 : P.filter (· ≤ n) = D.take i' := by
                rw [← hP]
                apply List.filter_congr
                intro x hx
                by_cases hxn : x ≤ n + k
                · have : x ∈ D.take i' := by rw [← hP]; exact List.mem_filter.2 ⟨hx, by simpa using hxn⟩
                  have := hall x (List.mem_of_mem_take this)
                  simp [this, hxn]
                · simp; omega
              have e2 : Q.filter (· ≤ n) = D.drop i' := by
                rw [← hQ]
                apply List.filter_congr
                intro x hx
                by_cases hxn : x < n + k
                · have : x ∈ D.drop i' := by rw [← hQ]; exact List.mem_filter.2 ⟨hx, by simpa using hxn⟩
                  have := hall x (List.mem_of_mem_drop this)
                  simp [this, hxn]
                · simp; omega
              rw [hl2, List.filter_append, e1, List.filter_cons, if_neg (by simp; omega), e2, List.take_append_drop]
            have hle2 := hle
            rw [← List.take_append_drop i D] at hle2
            obtain ⟨X, Y, hXY, hX, hY⟩ := List.filter_eq_append_iff.1 hle2
            have hYlt : ∀ c ∈ Y.filter (· ≤ n), c < n := by rw [hY]; exact h2
            refine ⟨X, Y, hXY, hX, by rw [filter_le_lt hYlt, hY], by omega, fun g hg => ?_⟩
            have hcp := cont_pre g b0 l n Y [] 0 bias D.length (ne_of_filter hYlt)
            rw [List.append_nil] at hcp
            rw [hcp, filter_le_lt hYlt, hY]
            obtain ⟨g, rfl⟩ : ∃ x, g = x + 1 := ⟨g - 1, by omega⟩
            unfold cont
            simp only [scan, List.nil_append]
            rw [rounds, if_pos (by omega)]
            have hleast : least l (n + 1) = n + k := by
              obtain ⟨hmin, hmem, -⟩ := least_spec l (n + 1)
              have m1 := hmin (n + k) (by rw [hl2]; simp) (by omega)
              have hsc : n + k < 1114112 := by
                rename_i hsc
                simp only [scalar, Bool.or_eq_true, Bool.and_eq_true, decide_eq_true_eq] at hsc
                omega
              rcases hmem with he | ⟨he, hn⟩
              · omega
              · apply Nat.le_antisymm m1
                apply Nat.le_of_not_lt
                intro hlt
                have : least l (n + 1) ≤ n := by
                  rw [hl2] at he
                  rcases List.mem_append.1 he with he | he
                  · have : least l (n + 1) ∈ D.take i' := by rw [← hP]; exact List.mem_filter.2 ⟨by rw [← hl2] at he; exact he, by simp; omega⟩
                    exact hall _ (List.mem_of_mem_take this)
                  · rcases List.mem_cons.1 he with he | he
                    · rw [← hl2] at he; omega
                    · have : least l (n + 1) ∈ D.drop i' := by rw [← hQ]; exact List.mem_filter.2 ⟨by rw [← hl2] at he; exact he, by simp; omega⟩
                      exact hall _ (List.mem_of_mem_drop this)
                omega
            rw [hleast]
            show cont g b0 l (n + k) l _ bias D.length = _
            have hq : 0 + (D.drop i).length + 1 + (n + k - (n + 1)) * (D.length + 1) + (P.filter (· < n + k)).length = q := by
              rw [filter_le_lt hPlt, hP, List.length_take, List.length_drop]
              have e : (n + k - (n + 1)) = k - 1 := by omega
              have e2 : k * (D.length + 1) = (k - 1) * (D.length + 1) + (D.length + 1) := by
                conv => lhs; rw [show k = (k - 1) + 1 by omega, Nat.succ_mul]
              rw [e]
              rw [Nat.mul_comm] at hdm
              omega
            conv => lhs; arg 5; rw [hl2]
            rw [cont_pre _ _ _ _ P _ _ _ _ (ne_of_filter hPlt), hq, cont_hit, ← hon, hQc g (by omega), hsm]
        · cases h

theorem rounds_skip (f b0 : Nat) (l : List Nat) (n m delta delta' bias h : Nat) (hm : least l n = m) (hm' : least l (n + 1) = m) (hd : delta' = delta + (h + 1)) (hmn : n + 1 ≤ m) : rounds f b0 l (n + 1) delta' bias h = rounds f b0 l n delta bias h := by
  cases f with
  | zero => rfl
  | succ f =>
    rw [rounds, rounds, hm, hm']
    have : delta' + (m - (n + 1)) * (h + 1) = delta + (m - n) * (h + 1) := by
      rw [hd, show m - n = (m - (n + 1)) + 1 by omega, Nat.succ_mul]
      omega
    rw [this]
theorem rounds_once {f b0 : Nat} {s : List UInt8} {D l : List Nat} (h : dec f s D 128 0 72 = some l) (hD : ∀ c ∈ D, c < 128) (hb : D.length = b0) : l.filter (· < 128) = D ∧ ∀ g, l.length < g → rounds g b0 l 128 0 72 b0 = s.map small := by
  obtain ⟨X, Y, hl, hX, hY, hlen, hc⟩ := dec_once b0 f s D 128 0 72 l h (by simp) (by simpa using hD) (by omega) (by omega) (by omega)
  simp only [List.take_zero, List.drop_zero] at hX hY
  have hXn : ∀ c ∈ X, ¬ c ≤ 128 := by simpa using List.filter_eq_nil_iff.1 hX
  have hX2 : X.filter (· < 128) = [] := List.filter_eq_nil_iff.2 fun c hc => by have := hXn c hc; simp; omega
  have hf : l.filter (· < 128) = D := by rw [hl, List.filter_append, hX2, hY, List.nil_append]
  refine ⟨hf, fun g hg => ?_⟩
  rw [hb] at hc hlen
  obtain ⟨hmin, hmem, htop⟩ := least_spec l 128
  by_cases hlt : b0 < l.length
  · obtain ⟨x, hx, hnx⟩ := filter_lt_or (l := l) (n := 128) (by rw [hf, hb]; exact hlt)
    by_cases hm : least l 128 = 128
    · obtain ⟨g, rfl⟩ : ∃ x, g = x + 1 := ⟨g - 1, by omega⟩
      rw [← hc g (by omega), rounds, if_pos hlt, hm]
      show cont g b0 l 128 l _ 72 b0 = _
      conv => lhs; arg 5; rw [hl]
      rw [cont_pre _ _ _ _ X _ _ _ _ (fun c hc => by have := hXn c hc; omega), hX2]
      simp
    · rw [← hc g (by omega)]
      have hcp := cont_pre g b0 l 128 Y [] 0 72 b0 (fun c hc => by
        rintro rfl
        apply hm
        rcases hmem with h | h
        · have := hmin 128 (by rw [hl]; simp [hc]) (by omega); omega
        · have := hmin 128 (by rw [hl]; simp [hc]) (by omega); omega)
      rw [List.append_nil] at hcp
      rw [hcp]
      unfold cont
      simp only [scan, List.nil_append, hY, hb]
      obtain ⟨hmin', hmem', htop'⟩ := least_spec l 129
      have hmm : least l 129 = least l 128 := by
        rcases hmem with h | h
        · rcases hmem' with h' | h'
          · omega
          · have := hmin _ h'.1 (by omega); omega
        · have := hmin' _ h.1 (by omega)
          rcases hmem' with h' | h'
          · omega
          · have := hmin _ h'.1 (by omega); omega
      symm
      exact rounds_skip g b0 l 128 _ 0 _ 72 b0 rfl hmm (by omega) (by rcases hmem with h | h <;> omega)
  · have h1 : rounds g b0 l 128 0 72 b0 = [] := by
      cases g with
      | zero => rfl
      | succ g => rw [rounds, if_neg hlt]
    have hbl : l.length = b0 := by omega
    have hall : ∀ c ∈ l, c < 128 := by
      have h1 : (l.filter (· < 128)).length = l.length := by rw [hf, hb, hbl]
      simpa using List.length_filter_eq_length_iff.1 h1
    rw [h1, ← hc g (by omega)]
    have hcp := cont_pre g b0 l 128 Y [] 0 72 b0 (fun c hc => by have := hall c (by rw [hl]; simp [hc]); omega)
    rw [List.append_nil] at hcp
    rw [hcp]
    unfold cont
    simp only [scan, List.nil_append]
    cases g with
    | zero => rfl
    | succ g => rw [rounds, if_neg hlt]

/-! Whole texts. -/
def digitsEnd (s : List UInt8) : List UInt8 := (s.reverse.takeWhile (· ≠ 45)).reverse
/-- The place of the last hyphen, and one; 0: there is none. -/
def hyph (s : List UInt8) : Nat := s.length - (digitsEnd s).length
def encL (l : List Nat) : List UInt8 :=
  ((l.filter (· < 128)).map UInt8.ofNat ++ (if (l.filter (· < 128)).length = 0 then [] else [45])) ++ rounds (l.length + 1) (l.filter (· < 128)).length l 128 0 72 (l.filter (· < 128)).length
def decL (s : List UInt8) : Option (List Nat) :=
  if s.all (· < 128) then
    (if 1 < hyph s then dec (s.drop (hyph s)).length (s.drop (hyph s)) ((s.take (hyph s - 1)).map UInt8.toNat) 128 0 72 else dec s.length s [] 128 0 72)
  else none
def smallL (s : List UInt8) : List UInt8 := s.take (hyph s) ++ (s.drop (hyph s)).map small
theorem hyph_none {s : List UInt8} (h : 45 ∉ s) : hyph s = 0 := by
  unfold hyph digitsEnd
  have : s.reverse.takeWhile (· ≠ 45) = s.reverse := by
    have := List.takeWhile_append_of_pos (p := fun c : UInt8 => decide (c ≠ 45)) (l₁ := s.reverse) (l₂ := []) (fun c hc => by
      simp only [List.mem_reverse] at hc
      simp; rintro rfl; exact h hc)
    simpa using this
  rw [this]; simp
theorem hyph_at (a b : List UInt8) (h : 45 ∉ b) : hyph (a ++ 45 :: b) = a.length + 1 := by
  unfold hyph digitsEnd
  have : (a ++ 45 :: b).reverse.takeWhile (· ≠ 45) = b.reverse := by
    rw [List.reverse_append, List.reverse_cons, List.append_assoc, List.takeWhile_append_of_pos]
    · simp
    · intro c hc
      simp only [List.mem_reverse] at hc
      simp; rintro rfl; exact h hc
  rw [this]; simp; omega
theorem hyph_cases (s : List UInt8) : (45 ∉ s ∧ hyph s = 0) ∨ ∃ a b, s = a ++ 45 :: b ∧ 45 ∉ b ∧ hyph s = a.length + 1 := by
  by_cases h : 45 ∈ s
  · right
    obtain ⟨a, b, he, hb⟩ := List.append_of_mem (List.mem_reverse.2 h) |> fun ⟨a, b, e⟩ => (⟨a, b, e, trivial⟩ : ∃ a b, s.reverse = a ++ 45 :: b ∧ True)
    clear hb a b he
    have hrec : ∀ l : List UInt8, 45 ∈ l → ∃ a b, l = a ++ 45 :: b ∧ 45 ∉ a := by
      intro l
      induction l with
      | nil => intro h; simp at h
      | cons c l ih =>
        intro h
        by_cases hc : c = 45
        · exact ⟨[], l, by rw [hc]; rfl, by simp⟩
        · obtain ⟨a, b, e, ha⟩ := ih (by rcases List.mem_cons.1 h with h | h; exact absurd h.symm hc; exact h)
          exact ⟨c :: a, b, by rw [e]; rfl, by simp [ha]; exact fun e => hc e.symm⟩
    obtain ⟨a, b, e, ha⟩ := hrec s.reverse (List.mem_reverse.2 h)
    refine ⟨b.reverse, a.reverse, ?_, by simpa using ha, ?_⟩
    · have := congrArg List.reverse e
      simpa using this
    · have h2 : s = b.reverse ++ 45 :: a.reverse := by have := congrArg List.reverse e; simpa using this
      rw [h2, hyph_at _ _ (by simpa using ha)]
  · exact .inl ⟨h, hyph_none h⟩
theorem digit_ne : ∀ d, d < 36 → digit d ≠ 45 := by decide
theorem digit_low : ∀ d, d < 36 → digit d < 128 := by decide
theorem scan_digits (b0 n : Nat) : ∀ (Y : List Nat) (delta bias h : Nat), ∀ c ∈ (scan b0 n Y delta bias h).1, ∃ d, d < 36 ∧ c = digit d
  | [], _, _, _ => by simp [scan]
  | x :: Y, delta, bias, h => by
    intro c hc
    rw [scan] at hc
    split at hc
    · exact scan_digits b0 n Y _ _ _ c hc
    · split at hc
      · rcases List.mem_append.1 hc with hc | hc
        · obtain ⟨d, hd, rfl⟩ := List.mem_map.1 hc
          exact ⟨d, tell_lt _ _ _ d hd, rfl⟩
        · exact scan_digits b0 n Y _ _ _ c hc
      · exact scan_digits b0 n Y _ _ _ c hc
theorem rounds_digits (b0 : Nat) (l : List Nat) : ∀ (f n delta bias h : Nat), ∀ c ∈ rounds f b0 l n delta bias h, ∃ d, d < 36 ∧ c = digit d
  | 0, _, _, _, _ => by simp [rounds]
  | f + 1, n, delta, bias, h => by
    intro c hc
    rw [rounds] at hc
    split at hc
    · rcases List.mem_append.1 hc with hc | hc
      · exact scan_digits _ _ _ _ _ _ c hc
      · exact rounds_digits b0 l f _ _ _ _ c hc
    · cases hc
theorem low_nat {n : Nat} (h : n < 128) : (UInt8.ofNat n).toNat = n := by
  rw [UInt8.toNat_ofNat']
  omega
theorem dec_enc (l : List Nat) (hl : l.length ≤ 500) (hs : ∀ c ∈ l, scalar c = true) : decL (encL l) = some l ∧ ∀ c ∈ encL l, c < 128 := by
  have hB : ∀ c ∈ l.filter (· < 128), c < 128 := fun c hc => by simpa using (List.mem_filter.1 hc).2
  have hrd := rounds_digits (l.filter (· < 128)).length l (l.length + 1) 128 0 72 (l.filter (· < 128)).length
  have hback := rounds_back (l.filter (· < 128)).length l hl hs (l.length + 1) 128 0 72 _ _ 128 0 rfl rfl (by omega) (by omega) (by simp) (by omega) (by omega)
  unfold encL
  generalize rounds (l.length + 1) (l.filter (· < 128)).length l 128 0 72 (l.filter (· < 128)).length = T at *
  generalize l.filter (· < 128) = B at *
  have hTl : ∀ c ∈ T, c < 128 := fun c hc => by obtain ⟨d, hd, rfl⟩ := hrd c hc; exact digit_low d hd
  have hTn : 45 ∉ T := fun hc => by obtain ⟨d, hd, he⟩ := hrd 45 hc; exact digit_ne d hd he.symm
  have hBl : ∀ c ∈ B.map UInt8.ofNat, c < 128 := fun c hc => by
    obtain ⟨x, hx, rfl⟩ := List.mem_map.1 hc
    rw [UInt8.lt_iff_toNat_lt, low_nat (hB x hx)]
    exact hB x hx
  have hall : ∀ c ∈ (B.map UInt8.ofNat ++ (if B.length = 0 then [] else [45])) ++ T, c < 128 := by
    intro c hc
    rcases List.mem_append.1 hc with hc | hc
    · rcases List.mem_append.1 hc with hc | hc
      · exact hBl c hc
      · split at hc
        · cases hc
        · simp only [List.mem_singleton] at hc; subst hc; decide
    · exact hTl c hc
  refine ⟨?_, hall⟩
  unfold decL
  rw [if_pos (by rw [List.all_eq_true]; intro c hc; simpa using hall c hc)]
  by_cases hb : B.length = 0
  · rw [if_pos hb]
    have : B = [] := List.length_eq_zero_iff.1 hb
    subst this
    simp only [List.map_nil, List.nil_append]
    rw [hyph_none hTn, if_neg (by omega)]
    exact hback _ (Nat.le_refl _)
  · rw [if_neg hb]
    have e : (B.map UInt8.ofNat ++ [45]) ++ T = B.map UInt8.ofNat ++ 45 :: T := by simp
    rw [e, hyph_at _ _ hTn, List.length_map]
    rw [if_pos (by omega)]
    have h1 : (B.map UInt8.ofNat ++ 45 :: T).drop (B.length + 1) = T := by
      rw [← e, List.drop_append]; simp
    have h2 : (B.map UInt8.ofNat ++ 45 :: T).take (B.length + 1 - 1) = B.map UInt8.ofNat := by
      rw [Nat.add_sub_cancel]; exact List.take_left' (by simp)
    rw [h1, h2]
    have h3 : (B.map UInt8.ofNat).map UInt8.toNat = B := by
      rw [List.map_map]
      conv => rhs; rw [← List.map_id B]
      apply List.map_congr_left
      intro x hx
      exact low_nat (hB x hx)
    rw [h3]
    exact hback _ (Nat.le_refl _)
theorem dec_nonempty_hyphen {f : Nat} {b : List UInt8} {D : List Nat} {n i bias : Nat} {l : List Nat} (h : dec f (45 :: b) D n i bias = some l) : False := by
  cases f with
  | zero => simp [dec] at h
  | succ f =>
    rw [dec] at h
    rw [show readW (45 :: b) i 1 36 bias = none from rfl] at h
    cases h
theorem enc_dec {s : List UInt8} {l : List Nat} (h : decL s = some l) : encL l = smallL s := by
  unfold decL at h
  split at h
  · rename_i hall
    rw [List.all_eq_true] at hall
    rcases hyph_cases s with ⟨hn, h0⟩ | ⟨a, b, rfl, hb, hh⟩
    · rw [h0, if_neg (by omega)] at h
      obtain ⟨hf, hr⟩ := rounds_once h (by simp) rfl
      unfold encL smallL
      rw [h0, hf]
      simp only [List.map_nil, List.length_nil, if_true, List.nil_append, List.take_zero, List.drop_zero]
      exact hr _ (by omega)
    · rw [hh] at h
      have hd : (a ++ 45 :: b).drop (a.length + 1) = b := by
        rw [show a ++ 45 :: b = (a ++ [45]) ++ b by simp, List.drop_append]; simp
      have ht : (a ++ 45 :: b).take (a.length + 1 - 1) = a := by
        rw [Nat.add_sub_cancel, List.take_append]; simp
      have ht2 : (a ++ 45 :: b).take (a.length + 1) = a ++ [45] := by
        rw [show a ++ 45 :: b = (a ++ [45]) ++ b by simp, List.take_append, List.take_of_length_le (by simp)]; simp
      by_cases ha : 1 < a.length + 1
      · rw [if_pos ha, hd, ht] at h
        have hlow : ∀ c ∈ a.map UInt8.toNat, c < 128 := by
          intro c hc
          obtain ⟨x, hx, rfl⟩ := List.mem_map.1 hc
          have := hall x (by simp [hx])
          rw [decide_eq_true_eq, UInt8.lt_iff_toNat_lt] at this
          exact this
        obtain ⟨hf, hr⟩ := rounds_once h hlow rfl
        unfold encL smallL
        rw [hf, hr _ (by omega), hh, ht2, hd, if_neg (by rw [List.length_map]; omega)]
        congr 2
        rw [List.map_map]
        conv => rhs; rw [← List.map_id a]
        apply List.map_congr_left
        intro x _
        simp
      · rw [if_neg ha] at h
        have : a = [] := List.length_eq_zero_iff.1 (by omega)
        subst this
        exact (dec_nonempty_hyphen h).elim
  · cases h
theorem enc_plain (l : List Nat) (h : ∀ c ∈ l, c < 128) : encL l = l.map UInt8.ofNat ++ (if l.length = 0 then [] else [45]) := by
  unfold encL
  have : l.filter (· < 128) = l := List.filter_eq_self.2 (by simpa using h)
  rw [this, rounds, if_neg (Nat.lt_irrefl _), List.append_nil]
end Go.Proofs.YtbeibfhnbnmocaaDoor.Puny
