/- Texts of errors: what a chain of Fails says, and the reference. -/
import Derived.Test.YtnipglclecafiaaDoorFailCalls
import Derived.Deep.LoopGhost
import Derived.LoopTactic
import Derived.Deep.RegionHeld3
import Derived.BigQuiet
import Derived.Deep.QuietTactic
set_option linter.unusedVariables false
set_option linter.unusedSimpArgs false
namespace Go.Proofs.YtnipglclecafiaaDoor
open Go.RowKit

theorem str_at {w : World} {A : Option Addr} {l : List ByteArray} (h : RowAt sC 1 w A l) {i : Nat} {a : ByteArray} (hi : l[i]? = some a) :
    ∃ b off, A = some ⟨b, off, none⟩ ∧ w.cell? ⟨b, off + i, none⟩ = some (.string a) := by
  obtain ⟨b, off, e, hc⟩ := h i a hi
  refine ⟨b, off, e, ?_⟩
  have := hc 0 _ rfl
  simpa using this

theorem wrap_up (i n c : Nat) (h : i < n) (h2 : n ≤ c) (h3 : c ≤ maxLen) : Value.int .i64 (wrap64 ((i : Int) + 1)) = .int .i64 ((i + 1 : Nat) : Int) := by
  simp only [maxLen] at h3
  rw [show wrap64 ((i : Int) + 1) = ((i + 1 : Nat) : Int) by unfold wrap64; omega]
theorem take_snoc {α : Type} {l : List α} {i : Nat} {x : α} (h : l[i]? = some x) : l.take (i + 1) = l.take i ++ [x] := by
  obtain ⟨hi, rfl⟩ := List.getElem?_eq_some_iff.1 h
  simp

/-- What the laws let in. -/
def fewS (l : List ByteArray) : Bool := decide (l.length ≤ 20) && l.all fun s => decide (s.size ≤ 60)
theorem fewS_not {l : List ByteArray} {s : ByteArray} (h : s ∈ l) (hs : (s.size : Int) > 60) : fewS l = false := by
  cases e : fewS l
  · rfl
  · simp only [fewS, Bool.and_eq_true, decide_eq_true_eq, List.all_eq_true] at e
    have := e.2 s h
    omega
theorem fewS_long {l : List ByteArray} (h : ¬ (l.length : Int) ≤ 20) : fewS l = false := by
  have : ¬ l.length ≤ 20 := by omega
  simp [fewS, this]
theorem fewS_all {l : List ByteArray} (h : l.length ≤ 20) (ha : ∀ s ∈ l, s.size ≤ 60) : fewS l = true := by
  simp only [fewS, Bool.and_eq_true, decide_eq_true_eq, List.all_eq_true]
  exact ⟨h, ha⟩
theorem take_all {α : Type} {l : List α} {i : Nat} {a : α} {p : α → Prop} (h : ∀ s ∈ l.take i, p s) (ha : l[i]? = some a) (hp : p a) : ∀ s ∈ l.take (i + 1), p s := by
  rw [take_snoc ha]
  intro s hs
  rcases List.mem_append.1 hs with hs | hs
  · exact h s hs
  · simp only [List.mem_singleton] at hs; rw [hs]; exact hp
set_option maxHeartbeats 1000000 in
theorem few_strs (A : Option Addr) (c : Nat) (l : List ByteArray) (w : World) (h : RowAt sC 1 w A l) (hlc : l.length ≤ c) (hcm : c ≤ maxLen) :
    Calls Tryd.prog 9 #[.slice A l.length c] w fun e w' => e = .returned (.bool (fewS l)) ∧ w = w' := by
  have H := Lib.hid h
  clear h
  go_enter Tryd.func9, Tryd.ntmps9
  go_wp2
  go_loopg [3] l.length (fun n v3 w' => Hid (∃ (i : Nat), v3 = .int .i64 i ∧ i ≤ l.length ∧ n = l.length - i ∧ (∀ s ∈ l.take i, s.size ≤ 60) ∧ w' = w))
  case atStart => exact ⟨0, rfl, Nat.zero_le _, rfl, by simp, rfl⟩
  case round =>
    obtain ⟨i, rfl, hi, hn, hall, rfl⟩ := hrel.out
    clear hrel
    have HALL := Lib.hid hall
    clear hall
    have HN := Lib.hid hn
    clear hn
    by_cases hlt : i < l.length
    · by_cases h21 : i < 21
      · obtain ⟨a, ha⟩ : ∃ a, l[i]? = some a := ⟨l[i]'hlt, List.getElem?_eq_getElem hlt⟩
        obtain ⟨b, off, rfl, c0⟩ := str_at H.out ha
        have HA := Lib.hid ha
        clear ha
        by_cases h60 : (a.size : Int) > 60
        · go_wp2
          go_ret
          exact ⟨by rw [fewS_not (List.mem_of_getElem? HA.out) h60]; rfl, rfl⟩
        · go_wp2
          go_roundg (l.length - (i + 1))
          case measure => have := HN.out; omega
          case rel => exact ⟨i + 1, (by first | exact wrap_up _ _ _ hlt hlc hcm | simp), by omega, rfl, take_all HALL.out HA.out (by omega), rfl⟩
      · by_cases h20 : (l.length : Int) ≤ 20
        · omega
        · go_wp2
          go_ret
          exact ⟨by rw [fewS_long (by omega)]; rfl, rfl⟩
    · by_cases h20 : (l.length : Int) ≤ 20
      · go_wp2
        go_ret
        exact ⟨by rw [fewS_all (by omega) (by have := HALL.out; rwa [List.take_of_length_le (by omega)] at this)]; rfl, rfl⟩
      · go_wp2
        go_ret
        exact ⟨by rw [fewS_long (by omega)]; rfl, rfl⟩

theorem fewS_len {l : List ByteArray} (h : fewS l = true) : l.length ≤ 20 := by
  simp only [fewS, Bool.and_eq_true, decide_eq_true_eq] at h
  exact h.1
def sep : ByteArray := ⟨#[58, 32]⟩
/-- The text of an error: its calls, the outermost first, and a word. -/
def errText : List ByteArray → ByteArray → ByteArray
  | [], w => w
  | c :: l, w => (c ++ sep) ++ errText l w
/-- The same, the calls the innermost first. -/
def textOf : List ByteArray → ByteArray → ByteArray
  | [], w => w
  | c :: l, w => textOf l ((c ++ sep) ++ w)
theorem textOf_snoc (c : ByteArray) : ∀ (l : List ByteArray) (w : ByteArray), textOf (l ++ [c]) w = (c ++ sep) ++ textOf l w
  | [], w => rfl
  | x :: l, w => by simp only [List.cons_append, textOf, textOf_snoc c l]
theorem errText_reverse (w : ByteArray) : ∀ l : List ByteArray, errText l.reverse w = textOf l w := by
  intro l
  have h : ∀ m : List ByteArray, textOf m.reverse w = errText m w := by
    intro m
    induction m with
    | nil => rfl
    | cons c m ih => rw [List.reverse_cons, textOf_snoc, ih, errText]
  have := h l.reverse
  rw [List.reverse_reverse] at this
  exact this.symm
/-- A number's word. -/
def word (c : Int) : ByteArray :=
  if c = 1 then ⟨#[97, 114, 103, 117, 109, 101, 110, 116]⟩ else if c = 2 then ⟨#[102, 111, 114, 109]⟩ else if c = 3 then ⟨#[104, 111, 115, 116]⟩ else if c = 4 then ⟨#[112, 111, 114, 116]⟩ else if c = 5 then ⟨#[98, 97, 115, 101]⟩
  else if c = 6 then ⟨#[116, 111, 111, 32, 108, 111, 110, 103]⟩ else if c = 7 then ⟨#[115, 116, 97, 108, 101]⟩ else if c = 8 then ⟨#[102, 117, 108, 108]⟩ else if c = 9 then ⟨#[99, 108, 111, 115, 101, 100]⟩ else ⟨#[110, 111, 110, 101]⟩
set_option maxHeartbeats 2000000 in
theorem error_num (c : Int) (w : World) (h1 : 1 ≤ c) (h10 : c ≤ 10) : Calls Tryd.prog 13 #[.int .i64 c] w fun e w' => e = .returned (.string (word c)) ∧ Below w.heap.size w w' := by
  have h : c = 1 ∨ c = 2 ∨ c = 3 ∨ c = 4 ∨ c = 5 ∨ c = 6 ∨ c = 7 ∨ c = 8 ∨ c = 9 ∨ c = 10 := by omega
  clear h1 h10
  rcases h with rfl | rfl | rfl | rfl | rfl | rfl | rfl | rfl | rfl | rfl
  all_goals (
    go_enter Tryd.func13, Tryd.ntmps13
    go_wp2
    go_ret
    exact ⟨rfl, (Below.refl w.heap.size w).alloc (Nat.le_refl _) _⟩)
theorem methodErrF (n : Nat) (v : Value) (w : World) : (Go.method (n + 1) 40 v "Error").run Tryd.prog w = .ok (22, v) w := by kernel_rfl
theorem methodErrE (n : Nat) (v : Value) (w : World) : (Go.method (n + 1) 25 v "Error").run Tryd.prog w = .ok (13, v) w := by kernel_rfl
/-- Texts that are short enough for any machine. -/
def Short (l : List ByteArray) : Prop := l.length ≤ 100 ∧ ∀ s ∈ l, s.size ≤ 100
theorem app_size (a b : ByteArray) : (a ++ b).size = a.size + b.size := by simp
theorem word_size (c : Int) : (word c).size ≤ 8 := by
  unfold word
  repeat (first | (split; decide) | split | decide)
theorem errText_size (w : ByteArray) : ∀ l : List ByteArray, (∀ s ∈ l, s.size ≤ 100) → (errText l w).size ≤ l.length * 102 + w.size
  | [], _ => by simp [errText]
  | c :: l, h => by
    have h1 := errText_size w l (fun s hs => h s (by simp [hs]))
    have h2 := h c (by simp)
    rw [errText, app_size, app_size, List.length_cons]
    have : sep.size = 2 := rfl
    omega
set_option maxHeartbeats 2000000 in
theorem error_atE (w : World) (g : Nat) (s : ByteArray) (c : Int) (hb : Blk w g 45 #[.string s, .iface 25 (.int .i64 c)]) (hs : s.size ≤ 100) (hT : (word c).size ≤ 100000)
    (hcall : Calls Tryd.prog 13 #[.int .i64 c] w.drew fun e w' => e = .returned (.string (word c)) ∧ Below w.drew.heap.size w.drew w') :
    Calls Tryd.prog 22 #[.pointer (some ⟨g, 0, none⟩)] w fun e w' => e = .returned (.string ((s ++ sep) ++ word c)) ∧ Below w.heap.size w w' := by
  have hmF := fun v w => methodErrF (213 - 1) v w
  have hmE := fun v w => methodErrE (213 - 1) v w
  simp only [Nat.reduceSub, Nat.reduceAdd] at hmF hmE
  have x0 := hb.cell 0
  have x1 := hb.cell 1
  have hlt := hb.lt
  simp only [List.getElem?_toArray, List.getElem?_cons_zero, List.getElem?_cons_succ] at x0 x1
  obtain ⟨T, hTT⟩ : ∃ T, T = word c := ⟨_, rfl⟩
  rw [← hTT] at hT hcall ⊢
  have hA : ∀ w, (Op.stringOp .add s ⟨#[58, 32]⟩).run Tryd.prog w = .ok (.string (s ++ ⟨#[58, 32]⟩)) w := fun w => run_string_add_sum w _ _ (by have : (⟨#[58, 32]⟩ : ByteArray).size = 2 := rfl; omega)
  have hB : ∀ w, (Op.stringOp .add (s ++ ⟨#[58, 32]⟩) T).run Tryd.prog w = .ok (.string ((s ++ ⟨#[58, 32]⟩) ++ T)) w := fun w => run_string_add_sum w _ _ (by rw [app_size]; have : (⟨#[58, 32]⟩ : ByteArray).size = 2 := rfl; omega)
  have HB := Lib.hid hb
  have HE := Lib.hid hcall
  clear hb hcall hT hTT
  go_enter Tryd.func22, Tryd.ntmps22
  go_wp2_with fail
  go_region_held3 (fun w' => w'.cell? ⟨g, 0, none⟩ = some (.string s) ∧ w'.cell? ⟨g, 1, none⟩ = some (.iface 25 (.int .i64 c)))
    (first | with_reducible exact ⟨x0, x1⟩ | with_reducible exact ⟨y0, y1⟩ | go_keep)
    (first | (go_at_call 13; refine HE.out.mono ?_; rintro e w5 ⟨rfl, hb5⟩; have y0 := (HB.out.drew.keep hb5).cell 0; have y1 := (HB.out.drew.keep hb5).cell 1; simp only [List.getElem?_toArray, List.getElem?_cons_zero, List.getElem?_cons_succ] at y0 y1; have HB5 := Lib.hid hb5; clear hb5))
  go_wp2
  go_ret
  exact ⟨rfl, belowOn (Below.refl _ w).drew (Nat.le_refl _) HB5.out⟩
set_option maxHeartbeats 2000000 in
theorem error_atF (w : World) (g : Nat) (s : ByteArray) (g2 : Nat) (T2 : ByteArray) (hb : Blk w g 45 #[.string s, .iface 40 (.pointer (some ⟨g2, 0, none⟩))]) (hs : s.size ≤ 100) (hT : (T2).size ≤ 100000)
    (hcall : Calls Tryd.prog 22 #[.pointer (some ⟨g2, 0, none⟩)] w.drew fun e w' => e = .returned (.string (T2)) ∧ Below w.drew.heap.size w.drew w') :
    Calls Tryd.prog 22 #[.pointer (some ⟨g, 0, none⟩)] w fun e w' => e = .returned (.string ((s ++ sep) ++ T2)) ∧ Below w.heap.size w w' := by
  have hmF := fun v w => methodErrF (213 - 1) v w
  have hmE := fun v w => methodErrE (213 - 1) v w
  simp only [Nat.reduceSub, Nat.reduceAdd] at hmF hmE
  have x0 := hb.cell 0
  have x1 := hb.cell 1
  have hlt := hb.lt
  simp only [List.getElem?_toArray, List.getElem?_cons_zero, List.getElem?_cons_succ] at x0 x1
  obtain ⟨T, hTT⟩ : ∃ T, T = T2 := ⟨_, rfl⟩
  rw [← hTT] at hT hcall ⊢
  have hA : ∀ w, (Op.stringOp .add s ⟨#[58, 32]⟩).run Tryd.prog w = .ok (.string (s ++ ⟨#[58, 32]⟩)) w := fun w => run_string_add_sum w _ _ (by have : (⟨#[58, 32]⟩ : ByteArray).size = 2 := rfl; omega)
  have hB : ∀ w, (Op.stringOp .add (s ++ ⟨#[58, 32]⟩) T).run Tryd.prog w = .ok (.string ((s ++ ⟨#[58, 32]⟩) ++ T)) w := fun w => run_string_add_sum w _ _ (by rw [app_size]; have : (⟨#[58, 32]⟩ : ByteArray).size = 2 := rfl; omega)
  have HB := Lib.hid hb
  have HE := Lib.hid hcall
  clear hb hcall hT hTT
  go_enter Tryd.func22, Tryd.ntmps22
  go_wp2_with fail
  go_region_held3 (fun w' => w'.cell? ⟨g, 0, none⟩ = some (.string s) ∧ w'.cell? ⟨g, 1, none⟩ = some (.iface 40 (.pointer (some ⟨g2, 0, none⟩))))
    (first | with_reducible exact ⟨x0, x1⟩ | with_reducible exact ⟨y0, y1⟩ | go_keep)
    (first | (go_at_call 22; refine HE.out.mono ?_; rintro e w5 ⟨rfl, hb5⟩; have y0 := (HB.out.drew.keep hb5).cell 0; have y1 := (HB.out.drew.keep hb5).cell 1; simp only [List.getElem?_toArray, List.getElem?_cons_zero, List.getElem?_cons_succ] at y0 y1; have HB5 := Lib.hid hb5; clear hb5))
  go_wp2
  go_ret
  exact ⟨rfl, belowOn (Below.refl _ w).drew (Nat.le_refl _) HB5.out⟩

theorem Chain.drew {w : World} {l : List ByteArray} {v : Value} {c : Int} (h : Chain w l v c) : Chain w.drew l v c := h.keep (Below.refl _ w).drew
theorem error_chain (c : Int) (h1 : 1 ≤ c) (h10 : c ≤ 10) : ∀ (l : List ByteArray) (s : ByteArray) (v : Value) (w : World) (g : Nat), Chain w l v c → Blk w g 45 #[.string s, v] → Short (s :: l) →
    Calls Tryd.prog 22 #[.pointer (some ⟨g, 0, none⟩)] w fun e w' => e = .returned (.string (errText (s :: l) (word c))) ∧ Below w.heap.size w w'
  | [], s, v, w, g, h, hb, hs => by
    cases h
    have hw := word_size c
    exact error_atE w g s c hb (hs.2 s (by simp)) (by omega) (error_num c _ h1 h10)
  | s2 :: l, s, v, w, g, h, hb, hs => by
    cases h with
    | fail g2 _ _ v2 _ hg2 hv2 =>
      have hs2 : Short (s2 :: l) := ⟨by have := hs.1; simp at this ⊢; omega, fun x hx => hs.2 x (by simp [hx])⟩
      have ih := error_chain c h1 h10 l s2 v2 w.drew g2 hv2.drew hg2 hs2
      have hsz := errText_size (word c) (s2 :: l) hs2.2
      have hw := word_size c
      have hl := hs2.1
      exact error_atF w g s g2 _ hb (hs.2 s (by simp)) (by omega) ih
end Go.Proofs.YtnipglclecafiaaDoor
