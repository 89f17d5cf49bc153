/- A tree of rules in memory, and the way down it. -/
import Derived.Test.YtgljkgkmbfhgiaaDoorTrie
set_option linter.unusedSimpArgs false
set_option linter.unusedVariables false
set_option maxRecDepth 100000
namespace Go.Proofs.YtgljkgkmbfhgiaaDoor
open Go.RowKit

/-- Where the node of a path lies, and its map. -/
abbrev Addrs := List ByteArray → Option (Nat × Option Nat)
def ptrAt (a : Addrs) (p : List ByteArray) : Value := .pointer ((a p).map fun x => ⟨x.1, 0, none⟩)
/-- The tree: each path's node, with what ends there. -/
structure TrieAt (w : World) (a : Addrs) (R E : List ByteArray → Bool) : Prop where
  node : ∀ p b om, a p = some (b, om) → Blk w b 71 #[.map om, .bool (R p), .bool (E p)]
  kids : ∀ p b mb, a p = some (b, some mb) → ∃ kvs, MapK Value.string w mb kvs ∧ Idx kvs (fun k => (a (p ++ [k])).map fun x => .pointer (some ⟨x.1, 0, none⟩))
  leaf : ∀ p b, a p = some (b, none) → ∀ k, a (p ++ [k]) = none
  out : ∀ p k, a p = none → a (p ++ [k]) = none
  off : ∀ p, a p = none → R p = false ∧ E p = false
theorem TrieAt.keep {w w' : World} {a : Addrs} {R E : List ByteArray → Bool} (h : TrieAt w a R E) (hb : Below w.heap.size w w') : TrieAt w' a R E :=
  ⟨fun p b om e => (h.node p b om e).keep hb, fun p b mb e => by obtain ⟨kvs, h1, h2⟩ := h.kids p b mb e; exact ⟨kvs, h1.keep hb, h2⟩, h.leaf, h.out, h.off⟩
theorem TrieAt.below {w : World} {a : Addrs} {R E : List ByteArray → Bool} (h : TrieAt w a R E) {p : List ByteArray} (hp : a p = none) : ∀ q : List ByteArray, a (p ++ q) = none := by
  intro q
  induction q generalizing p with
  | nil => simpa using hp
  | cons x q ih =>
    have := ih (h.out p x hp)
    simpa using this
theorem TrieAt.look {w : World} {a : Addrs} {R E : List ByteArray → Bool} (h : TrieAt w a R E) {p : List ByteArray} {b : Nat} {om : Option Nat} (hp : a p = some (b, om)) (k : ByteArray) :
    (Instr.lookup 69 (.map om) (.string k) false).run Tryd.prog w = .ok (ptrAt a (p ++ [k])) w := by
  cases om with
  | none =>
    have := run_lookNil (P := Tryd.prog) (w := w) (d := .string) (kf := Value.string) false Tryd.underlying69 Tryd.underlying9 (z := .pointer none) (by kernel_rfl) k
    rw [this]
    simp [ptrAt, h.leaf p b hp k]
  | some mb =>
    obtain ⟨kvs, h1, h2⟩ := h.kids p b mb hp
    have := run_lookK (P := Tryd.prog) (w := w) (d := .string) (kf := Value.string) false Tryd.underlying69 Tryd.underlying9 (z := .pointer none) (by kernel_rfl) h1 k
    rw [this, h2.2 k]
    cases hk : a (p ++ [k]) <;> simp [ptrAt, hk]

theorem best_none {f : List ByteArray → Bool} : ∀ (ls p : List ByteArray) (d : Int), (∀ q, f (p ++ q) = false) → best f ls p d = -1
  | [], p, d, h => by
    have := h []
    simp only [List.append_nil] at this
    simp [best, this]
  | s :: ls, p, d, h => by
    have h0 := h []
    simp only [List.append_nil] at h0
    have h1 := best_none ls (p ++ [s]) (d + 1) (fun q => by simpa using h (s :: q))
    have h2 := best_none ls (p ++ [star]) (d + 1) (fun q => by simpa using h (star :: q))
    simp [best, h0, h1, h2]

set_option maxHeartbeats 1000000 in
theorem walk_nil {w : World} {a : Addrs} {R E : List ByteArray → Bool} (h : TrieAt w a R E) (ls p : List ByteArray) (A : Option Addr) (c : Nat) (d : Int) (hp : a p = none) :
    Calls Tryd.prog 75 #[ptrAt a p, .slice A ls.length c, .int .i64 d] w fun e w' =>
      e = .returned (.agg #[.int .i64 (best R ls p d), .int .i64 (best E ls p d)]) ∧ Below w.heap.size w w' := by
  rw [best_none ls p d (fun q => (h.off _ (h.below hp q)).1), best_none ls p d (fun q => (h.off _ (h.below hp q)).2)]
  simp only [ptrAt, hp, Option.map_none]
  clear h hp
  go_enter Tryd.func75, Tryd.ntmps75
  go_wp2
  refine bodyPost_ret (results_cell_row rfl _ _ w.heap.size 102 #[.int .i64 (-1), .int .i64 (-1)] (0, 0) _ rfl ((Blk.new w _ _).alloc _) Tryd.underlying102 rfl (by kernel_rfl)) rfl ?_
  exact ⟨rfl, ((Below.refl _ w).alloc (Nat.le_refl _) _).alloc (by simp) _⟩

set_option maxHeartbeats 1000000 in
theorem walk_end {w : World} {a : Addrs} {R E : List ByteArray → Bool} (h : TrieAt w a R E) (p : List ByteArray) (A : Option Addr) (c : Nat) (d : Int) :
    Calls Tryd.prog 75 #[ptrAt a p, .slice A 0 c, .int .i64 d] w fun e w' =>
      e = .returned (.agg #[.int .i64 (best R [] p d), .int .i64 (best E [] p d)]) ∧ Below w.heap.size w w' := by
  cases hp : a p with
  | none => exact walk_nil h [] p A c d hp
  | some x =>
    obtain ⟨b, om⟩ := x
    have hn := h.node p b om hp
    have c1 := hn.cell 1
    have c2 := hn.cell 2
    have hlt := hn.lt
    have hlt1 : b < w.heap.size + 1 := by omega
    simp only [List.getElem?_toArray, List.getElem?_cons_zero, List.getElem?_cons_succ] at c1 c2
    simp only [ptrAt, hp, Option.map_some]
    clear hn h hp
    cases hR : R p <;> cases hE : E p <;> rw [hR] at c1 <;> rw [hE] at c2 <;> simp only [best, hR, hE, if_true, if_false, Bool.false_eq_true] <;> clear hR hE
    all_goals (
      go_enter Tryd.func75, Tryd.ntmps75
      go_wp2
      refine bodyPost_ret (results_cell_row rfl _ _ w.heap.size 102 _ (0, 0) _ rfl ((Blk.new w _ _).alloc _) Tryd.underlying102 rfl (by kernel_rfl)) rfl ?_
      exact ⟨rfl, ((Below.refl _ w).alloc (Nat.le_refl _) _).alloc (by simp) _⟩)

theorem walk_blocks (w : World) (x y : Int) :
    Blk ((w.alloc (.cells #[.int .i64 0, .int .i64 0] 102)).alloc (.cells #[.int .i64 x, .int .i64 y] 102)) w.heap.size 102 #[.int .i64 0, .int .i64 0] ∧
    Blk ((w.alloc (.cells #[.int .i64 0, .int .i64 0] 102)).alloc (.cells #[.int .i64 x, .int .i64 y] 102)) (w.heap.size + 1) 102 #[.int .i64 x, .int .i64 y] ∧
    Below w.heap.size w ((w.alloc (.cells #[.int .i64 0, .int .i64 0] 102)).alloc (.cells #[.int .i64 x, .int .i64 y] 102)) := by
  refine ⟨(Blk.new w _ _).alloc _, ?_, ((Below.refl _ w).alloc (Nat.le_refl _) _).alloc (by simp) _⟩
  have := Blk.new (w.alloc (.cells #[.int .i64 0, .int .i64 0] 102)) 102 #[.int .i64 x, .int .i64 y]
  simpa using this
/-- The labels but the first. -/
theorem str_tail {w : World} {b off c : Nat} {s : ByteArray} {ls : List ByteArray} (h : RowAt strC 1 w (some ⟨b, off, none⟩) (s :: ls)) (hc : ls.length + 1 ≤ c) :
    ∃ A, (if c = 1 then some (⟨b, off, none⟩ : Addr) else some ⟨b, off + 1, none⟩) = A ∧ RowAt strC 1 w A ls := by
  refine ⟨_, rfl, fun i x hx => ?_⟩
  have hl := (List.getElem?_eq_some_iff.1 hx).1
  rw [if_neg (by omega)]
  refine ⟨b, off + 1, rfl, fun j u hu => ?_⟩
  obtain ⟨b', off', e, hc'⟩ := h (i + 1) x (by simpa using hx)
  cases e
  have := hc' j u hu
  rwa [show off + (i + 1) * 1 + j = off + 1 + i * 1 + j by omega] at this
theorem found_info : (Tryd.prog.info? 102).map (fun i => (i.zero, i.size, i.bytes)) = some (some (.agg #[.int .i64 0, .int .i64 0]), 2, 16) := by kernel_rfl
theorem own_two {w : World} {g base : Nat} {x y u v : Value} (h : Blk w g 102 #[x, y, u, v]) (hg : base ≤ g) : w.ownsRow base 102 2 (.slice (some ⟨g, 0, none⟩) 2 2) 2 [x, y, u, v] :=
  ⟨rfl, .inr ⟨g, 2, #[x, y, u, v], rfl, hg, h, Nat.le_refl _, by simp [maxLen], rfl, rfl⟩⟩
theorem found_own {w : World} {g base cap : Nat} {l : List (Int × Int)} {cs : List Value} (h : w.ownsRow base 102 2 (.slice (some ⟨g, 0, none⟩) l.length cap) l.length cs) (hcs : cs = l.flatMap foundC := by rfl) : RowAt foundC 2 w (some ⟨g, 0, none⟩) l := by
  subst hcs
  intro i a hi
  refine ⟨g, 0, rfl, fun j z hj => ?_⟩
  have hl := (List.getElem?_eq_some_iff.1 hj).1
  have := h.cells (g := g) rfl (i * 2 + j) z ((flat_get (f := foundC) (sz := 2) (fun _ => rfl) l i j a hi (by simpa [foundC] using hl)).trans hj)
  rwa [show ((⟨g, 0, none⟩ : Addr).add (i * 2 + j)) = ⟨g, 0 + i * 2 + j, none⟩ by unfold Addr.add; split <;> simp_all] at this
theorem star_list : star.toList = ([42] : List UInt8) := by kernel_rfl
theorem found_two {w : World} {g : Nat} {x y u v : Int} (h : Blk w g 102 #[.int .i64 x, .int .i64 y, .int .i64 u, .int .i64 v]) : RowAt foundC 2 w (some ⟨g, 0, none⟩) [(x, y), (u, v)] := by
  intro i a hi
  refine ⟨g, 0, rfl, fun j z hj => ?_⟩
  rw [h.cell]
  have hl := (List.getElem?_eq_some_iff.1 hi).1
  have hlj := (List.getElem?_eq_some_iff.1 hj).1
  simp only [foundC, List.length_cons, List.length_nil] at hl hlj
  have hi2 : i = 0 ∨ i = 1 := by omega
  have hj2 : j = 0 ∨ j = 1 := by omega
  rcases hi2 with rfl | rfl <;> rcases hj2 with rfl | rfl <;> (cases hi; cases hj; rfl)

theorem found_ext (a b c e : Int) (h1 : a = c) (h2 : b = e) : Ending.returned (.agg #[.int .i64 a, .int .i64 b]) = Ending.returned (.agg #[.int .i64 c, .int .i64 e]) := by rw [h1, h2]
set_option maxHeartbeats 20000000 in
theorem walk_cons {a : Addrs} {R E : List ByteArray → Bool} (s : ByteArray) (ls : List ByteArray)
    (ih : ∀ (w : World) (p : List ByteArray) (A : Option Addr) (c d : Nat), TrieAt w a R E → RowAt strC 1 w A ls → ls.length ≤ c → c ≤ maxLen → d + ls.length ≤ 1000 →
      Calls Tryd.prog 75 #[ptrAt a p, .slice A ls.length c, .int .i64 d] w fun e w' => e = .returned (.agg #[.int .i64 (best R ls p d), .int .i64 (best E ls p d)]) ∧ Below w.heap.size w w')
    (w : World) (p : List ByteArray) (A : Option Addr) (c d : Nat) (h : TrieAt w a R E) (hrow : RowAt strC 1 w A (s :: ls)) (hc : (s :: ls).length ≤ c) (hcm : c ≤ maxLen) (hd : d + (s :: ls).length ≤ 1000) :
    Calls Tryd.prog 75 #[ptrAt a p, .slice A (s :: ls).length c, .int .i64 d] w fun e w' =>
      e = .returned (.agg #[.int .i64 (best R (s :: ls) p d), .int .i64 (best E (s :: ls) p d)]) ∧ Below w.heap.size w w' := by
  cases hp : a p with
  | none => exact walk_nil h (s :: ls) p A c d hp
  | some x =>
    obtain ⟨b, om⟩ := x
    have hn := h.node p b om hp
    have c0 := hn.cell 0
    have c1 := hn.cell 1
    have c2 := hn.cell 2
    have hlt := hn.lt
    have hlt1 : b < w.heap.size + 1 := by omega
    have hlt2 : b < w.heap.size + 1 + 1 := by omega
    obtain ⟨g, off, rfl, l0⟩ := str_at hrow (i := 0) (a := s) rfl
    simp only [Nat.add_zero] at l0
    have hgl := World.block_lt_of_cell? w _ l0
    simp only [List.getElem?_toArray, List.getElem?_cons_zero, List.getElem?_cons_succ] at c0 c1 c2
    have hptr : ptrAt a p = .pointer (some ⟨b, 0, none⟩) := by simp [ptrAt, hp]
    rw [hptr]
    have H := Lib.hid h
    have HN := Lib.hid hn
    have HP := Lib.hid hp
    have HROW := Lib.hid hrow
    have HIH := Lib.hid ih
    obtain ⟨A1, hA1, hr1⟩ := str_tail hrow (by simpa using hc)
    have HR1 := Lib.hid hr1
    have hc' : ls.length + 1 ≤ c := by simpa using hc
    have hd' : d + (ls.length + 1) ≤ 1000 := by simpa using hd
    rw [show (s :: ls).length = ls.length + 1 from rfl]
    have hle : ((ls.length + 1 : Nat) : Int) = (ls.length : Int) + 1 := by simp
    clear hn h hrow hptr hp ih hr1 hc hd
    cases hR : R p <;> cases hE : E p
    · as_aux_lemma =>
        rw [hR] at c1
        rw [hE] at c2
        have hbR : ∀ ls, best R (s :: ls) p d = max (-1) (max (best R ls (p ++ [s]) (d + 1)) (if s = star then -1 else best R ls (p ++ [star]) (d + 1))) := fun ls => by simp [best, hR]
        have hbE : ∀ ls, best E (s :: ls) p d = max (-1) (max (best E ls (p ++ [s]) (d + 1)) (if s = star then -1 else best E ls (p ++ [star]) (d + 1))) := fun ls => by simp [best, hE]
        rw [hbR, hbE]
        clear hbR hbE hR hE
        go_enter Tryd.func75, Tryd.ntmps75
        go_wp2_with fail
        obtain ⟨bl0, bl1, hbe⟩ := walk_blocks w (-1) (-1)
        clear c0 c1 c2 l0
        generalize (w.alloc (.cells #[.int .i64 0, .int .i64 0] 102)).alloc (.cells #[.int .i64 (-1), .int .i64 (-1)] 102) = W at bl0 bl1 hbe ⊢
        have hT := H.out.keep hbe
        have hN := HN.out.keep hbe
        have hRow := HROW.out.keep hbe
        have x0 := bl1.cell 0
        have x1 := bl1.cell 1
        have c0 := hN.cell 0
        obtain ⟨g', off', e', l0⟩ := str_at hRow (i := 0) (a := s) rfl
        cases e'
        simp only [Nat.add_zero, List.getElem?_toArray, List.getElem?_cons_zero, List.getElem?_cons_succ] at x0 x1 c0 l0
        have hlk := (hT.keep (Below.refl _ _).drew).look HP.out s
        have HT := Lib.hid hT
        have HNW := Lib.hid hN
        have HRW := Lib.hid (HR1.out.keep hbe)
        have HROWW := Lib.hid hRow
        have HB0 := Lib.hid bl0
        have HB1 := Lib.hid bl1
        have HBE := Lib.hid hbe
        clear hT hN hRow bl0 bl1 hbe
        have hlen0 : (0 : Int) < (ls.length : Int) + 1 := by omega
        have hlen1 : (1 : Int) ≤ (ls.length : Int) + 1 := by omega
        have hlen2 : (ls.length : Int) + 1 ≤ (c : Int) := by omega
        have hdw : IntKind.i64.wrap ((d : Int) + 1) = ((d + 1 : Nat) : Int) := by rw [IntKind.wrap_i64]; omega
        have hih := HIH.out W.drew (p ++ [s]) A1 (c - 1) (d + 1) (HT.out.keep (Below.refl _ _).drew) (HRW.out.keep (Below.refl _ _).drew) (by omega) (by omega) (by omega)
        simp only [Int.natCast_add, Int.cast_ofNat_Int] at hih
        have HIH1 := Lib.hid hih
        clear hih
        go_region_held3 (fun w' => w'.cell? ⟨w.heap.size + 1, 0, none⟩ = some (.int .i64 (-1)) ∧ w'.cell? ⟨w.heap.size + 1, 1, none⟩ = some (.int .i64 (-1)) ∧ w'.cell? ⟨b, 0, none⟩ = some (.map om) ∧ w'.cell? ⟨g, off, none⟩ = some (.string s))
          (first | exact ⟨x0, x1, c0, l0⟩ | exact ⟨x05, x15, c05, l05⟩ | go_keep)
          (first
            | (go_at_call 75; refine HIH1.out.mono ?_; rintro e w5 ⟨rfl, hb5⟩; have x05 := (HB1.out.drew.keep hb5).cell 0; have x15 := (HB1.out.drew.keep hb5).cell 1; have c05 := (HNW.out.drew.keep hb5).cell 0; obtain ⟨g5, off5, e5, l05⟩ := str_at ((HROWW.out.keep (Below.refl _ _).drew).keep hb5) (i := 0) (a := s) rfl; cases e5; simp only [Nat.add_zero, List.getElem?_toArray, List.getElem?_cons_zero, List.getElem?_cons_succ] at x05 x15 c05 l05; have HB5 := Lib.hid hb5; clear hb5))
        have hb5 := HB5.out
        have hlow2 : w.heap.size < w5.heap.size := by have h1 := HB1.out.lt; have h2 := hb5.size; simp at h2; omega
        have hlow : w.heap.size ≤ w5.heap.size := Nat.le_trans HBE.out.size (by have := hb5.size; simpa using this)
        have hbe5 : Below w.heap.size w w5 := belowOn HBE.out.drew HBE.out.size hb5
        have W6 := Blk.new w5 102 #[.int .i64 (-1), .int .i64 (-1), .int .i64 (best R ls (p ++ [s]) (↑d + 1)), .int .i64 (best E ls (p ++ [s]) (↑d + 1))]
        have hb6 := (Below.refl w5.heap.size w5).alloc (Nat.le_refl _) (.cells #[.int .i64 (-1), .int .i64 (-1), .int .i64 (best R ls (p ++ [s]) (↑d + 1)), .int .i64 (best E ls (p ++ [s]) (↑d + 1))] 102)
        have B0 := ((HB0.out.drew.keep hb5).keep hb6)
        have hT6 := (((HT.out.keep (Below.refl _ _).drew).keep hb5).keep hb6)
        have hN6 := ((HNW.out.drew.keep hb5).keep hb6)
        have hR6 := (((HRW.out.keep (Below.refl _ _).drew).keep hb5).keep hb6)
        have hL6 := (((HROWW.out.keep (Below.refl _ _).drew).keep hb5).keep hb6)
        have hbe6 := belowOn hbe5 hlow hb6
        clear x05 x15 c05 l05 x0 x1 c0 l0 hlk hb5 hb6 hbe5
        generalize w5.alloc (.cells #[.int .i64 (-1), .int .i64 (-1), .int .i64 (best R ls (p ++ [s]) (↑d + 1)), .int .i64 (best E ls (p ++ [s]) (↑d + 1))] 102) = w6 at W6 B0 hT6 hN6 hR6 hL6 hbe6 ⊢
        generalize w5.heap.size = gw at W6 hlow hlow2 ⊢
        obtain ⟨g6, off6, e6, l6⟩ := str_at hL6 (i := 0) (a := s) rfl
        cases e6
        simp only [Nat.add_zero] at l6
        generalize hr1 : best R ls (p ++ [s]) (↑d + 1) = r1 at W6 ⊢
        generalize he1 : best E ls (p ++ [s]) (↑d + 1) = e1 at W6 ⊢
        have HRV := Lib.hid hr1
        have HEV := Lib.hid he1
        clear hr1 he1
        have HW6 := Lib.hid W6
        have HB06 := Lib.hid B0
        have HT6 := Lib.hid hT6
        have HN6 := Lib.hid hN6
        have HR6 := Lib.hid hR6
        have HBE6 := Lib.hid hbe6
        clear W6 B0 hT6 hN6 hR6 hL6 hbe6
        by_cases hs : s = star
        · have hbq : (s.toList == ([42] : List UInt8)) = true := by rw [← star_list]; exact str_beq_true hs
          have HS := Lib.hid hs
          clear hs
          go_wp2_with fail
          have hm := most_calls (some ⟨gw, 0, none⟩) 2 [((-1), (-1)), (r1, e1)] w6 (found_two HW6.out) (by simp)
          refine hm.mono ?_
          rintro e w7 ⟨rfl, hb7⟩
          have b7 := HB06.out.keep hb7
          have y0 := b7.cell 0
          have y1 := b7.cell 1
          have fy0 := b7.frozen 0
          have fy1 := b7.frozen 1
          simp only [List.getElem?_toArray, List.getElem?_cons_zero, List.getElem?_cons_succ] at y0 y1
          have HB7 := Lib.hid b7
          have HBE7 := Lib.hid (belowOn HBE6.out HBE6.out.size hb7)
          clear b7 hb7 hm
          go_wp2
          have hb8 := (HB7.out.set_ 0 (.int .i64 (mostL [((-1), (-1)), (r1, e1)] (-1, -1)).1)).set_ 1 (.int .i64 (mostL [((-1), (-1)), (r1, e1)] (-1, -1)).2)
          simp only [List.setIfInBounds_toArray, List.set_cons_zero, List.set_cons_succ] at hb8
          refine bodyPost_ret (results_cell_row rfl _ _ w.heap.size 102 _ (0, 0) _ rfl hb8 Tryd.underlying102 rfl (by kernel_rfl)) rfl ?_
          refine ⟨?_, (HBE7.out.setCell (p := ⟨w.heap.size, 0, none⟩) (by simp) _).setCell (p := ⟨w.heap.size, 1, none⟩) (by simp) _⟩
          have e1' := HRV.out
          have e2' := HEV.out
          have hs := HS.out
          subst hs
          simp only [mostL, e1', e2', if_true]
          exact found_ext _ _ _ _ (by omega) (by omega)
        · have hbq : (s.toList == ([42] : List UInt8)) = false := by rw [← star_list]; exact str_beq_false hs
          have HS := Lib.hid hs
          clear hs
          go_wp2_with fail
          have hbg : b ≠ gw := HN6.out.ne_ HW6.out (by decide)
          have x0 := HN6.out.cell 0
          simp only [List.getElem?_toArray, List.getElem?_cons_zero, List.getElem?_cons_succ] at x0
          have hlk : (Instr.lookup 69 (.map om) (.string ⟨#[42]⟩) false).run Tryd.prog w6.drew = .ok (ptrAt a (p ++ [star])) w6.drew := (HT6.out.keep (Below.refl _ _).drew).look HP.out star
          have hih := HIH.out w6.drew (p ++ [star]) A1 (c - 1) (d + 1) (HT6.out.keep (Below.refl _ _).drew) (HR6.out.keep (Below.refl _ _).drew) (by omega) (by omega) (by omega)
          simp only [Int.natCast_add, Int.cast_ofNat_Int] at hih
          have HIH2 := Lib.hid hih
          clear hih
          obtain ⟨ip, hip, hpz, hps, hpb⟩ := info_parts found_info
          have HI := Lib.hid (And.intro hip (And.intro hpz (And.intro hps hpb)))
          clear hip hpz hps hpb
          go_region_held3 (fun w' => w'.cell? ⟨b, 0, none⟩ = some (.map om))
            (first | exact x0 | exact x05 | go_keep)
            (first
              | (go_at_call 75; refine HIH2.out.mono ?_; rintro e w7 ⟨rfl, hb7⟩; have x05 := (HN6.out.drew.keep hb7).cell 0; simp only [List.getElem?_toArray, List.getElem?_cons_zero, List.getElem?_cons_succ] at x05; have HW7 := Lib.hid (HW6.out.drew.keep hb7); have HB7 := Lib.hid hb7; clear hb7)
              | (refine step_append_lies _ (by rfl) (.tmp 48) (.tmp 59) _ (by rfl) w.heap.size 102 ip _ 2 16 Tryd.underlying114 HI.out.1 HI.out.2.1 HI.out.2.2.1 HI.out.2.2.2 rfl (by omega) (.slice (some ⟨gw, 0, none⟩) 2 2) 2 [.int .i64 (-1), .int .i64 (-1), .int .i64 r1, .int .i64 e1] (by rfl) (own_two (HW7.out.alloc _) hlow) _ 1 1 [.int .i64 (best R ls (p ++ [star]) (↑d + 1)), .int .i64 (best E ls (p ++ [star]) (↑d + 1))] (by rfl) rfl (cells_new _ #[.int .i64 (best R ls (p ++ [star]) (↑d + 1)), .int .i64 (best E ls (p ++ [star]) (↑d + 1))] _) (by intro u hu; simp at hu; rcases hu with rfl | rfl <;> rfl) (by omega) (by simp [maxLen]) (by omega) (by have := (HB7.out).size; have := HBE6.out.size; simp at *; omega) _ rfl ?_; intro g8 cap8 w8 hown8 hg8 hat8 hlt8; have x05 := (((HN6.out.drew.keep HB7.out).alloc _).grown hg8 (fun e => hbg (by simpa [Value.ownBlock] using e))).cell 0; simp only [List.getElem?_toArray, List.getElem?_cons_zero, List.getElem?_cons_succ] at x05; have HO8 := Lib.hid hown8; have HG8 := Lib.hid hg8; have HA8 := Lib.hid hat8; clear hown8 hg8 hat8 hlt8))
          have h7 := HB7.out
          have hbe8 : Below w.heap.size w w8 := ((belowOn HBE6.out.drew HBE6.out.size h7).alloc (Nat.le_trans HBE6.out.size (by have := h7.size; simpa using this)) _).grown HG8.out (by simp; have := HBE6.out.size; have := h7.size; simp at *; omega) (fun k e => by simp [Value.ownBlock] at e; omega)
          have b8 := ((HB06.out.drew.keep h7).alloc (.cells #[.int .i64 (best R ls (p ++ [star]) (↑d + 1)), .int .i64 (best E ls (p ++ [star]) (↑d + 1))] 102)).grown HG8.out (fun e => by simp [Value.ownBlock] at e; omega)
          have hrow8 : RowAt foundC 2 w8 (some ⟨g8, 0, none⟩) [((-1), (-1)), (r1, e1), (best R ls (p ++ [star]) (↑d + 1), best E ls (p ++ [star]) (↑d + 1))] := found_own HO8.out
          have HBE8 := Lib.hid hbe8
          have HB8 := Lib.hid b8
          have HROW8 := Lib.hid hrow8
          clear x05 h7 hbe8 b8 hrow8 x0 hlk
          go_wp2_with fail
          generalize hr2 : best R ls (p ++ [star]) (↑d + 1) = r2 at HROW8 ⊢
          generalize he2 : best E ls (p ++ [star]) (↑d + 1) = e2 at HROW8 ⊢
          have HRV2 := Lib.hid hr2
          have HEV2 := Lib.hid he2
          clear hr2 he2
          have hm := most_calls (some ⟨g8, 0, none⟩) cap8 [((-1), (-1)), (r1, e1), (r2, e2)] w8 HROW8.out (by simp)
          refine hm.mono ?_
          rintro e w9 ⟨rfl, hb9⟩
          have b9 := HB8.out.keep hb9
          have y0 := b9.cell 0
          have y1 := b9.cell 1
          have fy0 := b9.frozen 0
          have fy1 := b9.frozen 1
          simp only [List.getElem?_toArray, List.getElem?_cons_zero, List.getElem?_cons_succ] at y0 y1
          have HB9 := Lib.hid b9
          have HBE9 := Lib.hid (belowOn HBE8.out HBE8.out.size hb9)
          clear b9 hb9 hm
          go_wp2
          have hb10 := (HB9.out.set_ 0 (.int .i64 (mostL [((-1), (-1)), (r1, e1), (r2, e2)] (-1, -1)).1)).set_ 1 (.int .i64 (mostL [((-1), (-1)), (r1, e1), (r2, e2)] (-1, -1)).2)
          simp only [List.setIfInBounds_toArray, List.set_cons_zero, List.set_cons_succ] at hb10
          refine bodyPost_ret (results_cell_row rfl _ _ w.heap.size 102 _ (0, 0) _ rfl hb10 Tryd.underlying102 rfl (by kernel_rfl)) rfl ?_
          refine ⟨?_, (HBE9.out.setCell (p := ⟨w.heap.size, 0, none⟩) (by simp) _).setCell (p := ⟨w.heap.size, 1, none⟩) (by simp) _⟩
          simp only [mostL, HRV.out, HEV.out, HRV2.out, HEV2.out, if_neg HS.out]
          rw [show max (max (max (-1) (-1)) r1) r2 = max (-1) (max r1 r2) by omega, show max (max (max (-1) (-1)) e1) e2 = max (-1) (max e1 e2) by omega]
    · as_aux_lemma =>
        rw [hR] at c1
        rw [hE] at c2
        have hbR : ∀ ls, best R (s :: ls) p d = max (-1) (max (best R ls (p ++ [s]) (d + 1)) (if s = star then -1 else best R ls (p ++ [star]) (d + 1))) := fun ls => by simp [best, hR]
        have hbE : ∀ ls, best E (s :: ls) p d = max (d : Int) (max (best E ls (p ++ [s]) (d + 1)) (if s = star then -1 else best E ls (p ++ [star]) (d + 1))) := fun ls => by simp [best, hE]
        rw [hbR, hbE]
        clear hbR hbE hR hE
        go_enter Tryd.func75, Tryd.ntmps75
        go_wp2_with fail
        obtain ⟨bl0, bl1, hbe⟩ := walk_blocks w (-1) (d : Int)
        clear c0 c1 c2 l0
        generalize (w.alloc (.cells #[.int .i64 0, .int .i64 0] 102)).alloc (.cells #[.int .i64 (-1), .int .i64 (d : Int)] 102) = W at bl0 bl1 hbe ⊢
        have hT := H.out.keep hbe
        have hN := HN.out.keep hbe
        have hRow := HROW.out.keep hbe
        have x0 := bl1.cell 0
        have x1 := bl1.cell 1
        have c0 := hN.cell 0
        obtain ⟨g', off', e', l0⟩ := str_at hRow (i := 0) (a := s) rfl
        cases e'
        simp only [Nat.add_zero, List.getElem?_toArray, List.getElem?_cons_zero, List.getElem?_cons_succ] at x0 x1 c0 l0
        have hlk := (hT.keep (Below.refl _ _).drew).look HP.out s
        have HT := Lib.hid hT
        have HNW := Lib.hid hN
        have HRW := Lib.hid (HR1.out.keep hbe)
        have HROWW := Lib.hid hRow
        have HB0 := Lib.hid bl0
        have HB1 := Lib.hid bl1
        have HBE := Lib.hid hbe
        clear hT hN hRow bl0 bl1 hbe
        have hlen0 : (0 : Int) < (ls.length : Int) + 1 := by omega
        have hlen1 : (1 : Int) ≤ (ls.length : Int) + 1 := by omega
        have hlen2 : (ls.length : Int) + 1 ≤ (c : Int) := by omega
        have hdw : IntKind.i64.wrap ((d : Int) + 1) = ((d + 1 : Nat) : Int) := by rw [IntKind.wrap_i64]; omega
        have hih := HIH.out W.drew (p ++ [s]) A1 (c - 1) (d + 1) (HT.out.keep (Below.refl _ _).drew) (HRW.out.keep (Below.refl _ _).drew) (by omega) (by omega) (by omega)
        simp only [Int.natCast_add, Int.cast_ofNat_Int] at hih
        have HIH1 := Lib.hid hih
        clear hih
        go_region_held3 (fun w' => w'.cell? ⟨w.heap.size + 1, 0, none⟩ = some (.int .i64 (-1)) ∧ w'.cell? ⟨w.heap.size + 1, 1, none⟩ = some (.int .i64 (d : Int)) ∧ w'.cell? ⟨b, 0, none⟩ = some (.map om) ∧ w'.cell? ⟨g, off, none⟩ = some (.string s))
          (first | exact ⟨x0, x1, c0, l0⟩ | exact ⟨x05, x15, c05, l05⟩ | go_keep)
          (first
            | (go_at_call 75; refine HIH1.out.mono ?_; rintro e w5 ⟨rfl, hb5⟩; have x05 := (HB1.out.drew.keep hb5).cell 0; have x15 := (HB1.out.drew.keep hb5).cell 1; have c05 := (HNW.out.drew.keep hb5).cell 0; obtain ⟨g5, off5, e5, l05⟩ := str_at ((HROWW.out.keep (Below.refl _ _).drew).keep hb5) (i := 0) (a := s) rfl; cases e5; simp only [Nat.add_zero, List.getElem?_toArray, List.getElem?_cons_zero, List.getElem?_cons_succ] at x05 x15 c05 l05; have HB5 := Lib.hid hb5; clear hb5))
        have hb5 := HB5.out
        have hlow2 : w.heap.size < w5.heap.size := by have h1 := HB1.out.lt; have h2 := hb5.size; simp at h2; omega
        have hlow : w.heap.size ≤ w5.heap.size := Nat.le_trans HBE.out.size (by have := hb5.size; simpa using this)
        have hbe5 : Below w.heap.size w w5 := belowOn HBE.out.drew HBE.out.size hb5
        have W6 := Blk.new w5 102 #[.int .i64 (-1), .int .i64 (d : Int), .int .i64 (best R ls (p ++ [s]) (↑d + 1)), .int .i64 (best E ls (p ++ [s]) (↑d + 1))]
        have hb6 := (Below.refl w5.heap.size w5).alloc (Nat.le_refl _) (.cells #[.int .i64 (-1), .int .i64 (d : Int), .int .i64 (best R ls (p ++ [s]) (↑d + 1)), .int .i64 (best E ls (p ++ [s]) (↑d + 1))] 102)
        have B0 := ((HB0.out.drew.keep hb5).keep hb6)
        have hT6 := (((HT.out.keep (Below.refl _ _).drew).keep hb5).keep hb6)
        have hN6 := ((HNW.out.drew.keep hb5).keep hb6)
        have hR6 := (((HRW.out.keep (Below.refl _ _).drew).keep hb5).keep hb6)
        have hL6 := (((HROWW.out.keep (Below.refl _ _).drew).keep hb5).keep hb6)
        have hbe6 := belowOn hbe5 hlow hb6
        clear x05 x15 c05 l05 x0 x1 c0 l0 hlk hb5 hb6 hbe5
        generalize w5.alloc (.cells #[.int .i64 (-1), .int .i64 (d : Int), .int .i64 (best R ls (p ++ [s]) (↑d + 1)), .int .i64 (best E ls (p ++ [s]) (↑d + 1))] 102) = w6 at W6 B0 hT6 hN6 hR6 hL6 hbe6 ⊢
        generalize w5.heap.size = gw at W6 hlow hlow2 ⊢
        obtain ⟨g6, off6, e6, l6⟩ := str_at hL6 (i := 0) (a := s) rfl
        cases e6
        simp only [Nat.add_zero] at l6
        generalize hr1 : best R ls (p ++ [s]) (↑d + 1) = r1 at W6 ⊢
        generalize he1 : best E ls (p ++ [s]) (↑d + 1) = e1 at W6 ⊢
        have HRV := Lib.hid hr1
        have HEV := Lib.hid he1
        clear hr1 he1
        have HW6 := Lib.hid W6
        have HB06 := Lib.hid B0
        have HT6 := Lib.hid hT6
        have HN6 := Lib.hid hN6
        have HR6 := Lib.hid hR6
        have HBE6 := Lib.hid hbe6
        clear W6 B0 hT6 hN6 hR6 hL6 hbe6
        by_cases hs : s = star
        · have hbq : (s.toList == ([42] : List UInt8)) = true := by rw [← star_list]; exact str_beq_true hs
          have HS := Lib.hid hs
          clear hs
          go_wp2_with fail
          have hm := most_calls (some ⟨gw, 0, none⟩) 2 [((-1), (d : Int)), (r1, e1)] w6 (found_two HW6.out) (by simp)
          refine hm.mono ?_
          rintro e w7 ⟨rfl, hb7⟩
          have b7 := HB06.out.keep hb7
          have y0 := b7.cell 0
          have y1 := b7.cell 1
          have fy0 := b7.frozen 0
          have fy1 := b7.frozen 1
          simp only [List.getElem?_toArray, List.getElem?_cons_zero, List.getElem?_cons_succ] at y0 y1
          have HB7 := Lib.hid b7
          have HBE7 := Lib.hid (belowOn HBE6.out HBE6.out.size hb7)
          clear b7 hb7 hm
          go_wp2
          have hb8 := (HB7.out.set_ 0 (.int .i64 (mostL [((-1), (d : Int)), (r1, e1)] (-1, -1)).1)).set_ 1 (.int .i64 (mostL [((-1), (d : Int)), (r1, e1)] (-1, -1)).2)
          simp only [List.setIfInBounds_toArray, List.set_cons_zero, List.set_cons_succ] at hb8
          refine bodyPost_ret (results_cell_row rfl _ _ w.heap.size 102 _ (0, 0) _ rfl hb8 Tryd.underlying102 rfl (by kernel_rfl)) rfl ?_
          refine ⟨?_, (HBE7.out.setCell (p := ⟨w.heap.size, 0, none⟩) (by simp) _).setCell (p := ⟨w.heap.size, 1, none⟩) (by simp) _⟩
          have e1' := HRV.out
          have e2' := HEV.out
          have hs := HS.out
          subst hs
          simp only [mostL, e1', e2', if_true]
          exact found_ext _ _ _ _ (by omega) (by omega)
        · have hbq : (s.toList == ([42] : List UInt8)) = false := by rw [← star_list]; exact str_beq_false hs
          have HS := Lib.hid hs
          clear hs
          go_wp2_with fail
          have hbg : b ≠ gw := HN6.out.ne_ HW6.out (by decide)
          have x0 := HN6.out.cell 0
          simp only [List.getElem?_toArray, List.getElem?_cons_zero, List.getElem?_cons_succ] at x0
          have hlk : (Instr.lookup 69 (.map om) (.string ⟨#[42]⟩) false).run Tryd.prog w6.drew = .ok (ptrAt a (p ++ [star])) w6.drew := (HT6.out.keep (Below.refl _ _).drew).look HP.out star
          have hih := HIH.out w6.drew (p ++ [star]) A1 (c - 1) (d + 1) (HT6.out.keep (Below.refl _ _).drew) (HR6.out.keep (Below.refl _ _).drew) (by omega) (by omega) (by omega)
          simp only [Int.natCast_add, Int.cast_ofNat_Int] at hih
          have HIH2 := Lib.hid hih
          clear hih
          obtain ⟨ip, hip, hpz, hps, hpb⟩ := info_parts found_info
          have HI := Lib.hid (And.intro hip (And.intro hpz (And.intro hps hpb)))
          clear hip hpz hps hpb
          go_region_held3 (fun w' => w'.cell? ⟨b, 0, none⟩ = some (.map om))
            (first | exact x0 | exact x05 | go_keep)
            (first
              | (go_at_call 75; refine HIH2.out.mono ?_; rintro e w7 ⟨rfl, hb7⟩; have x05 := (HN6.out.drew.keep hb7).cell 0; simp only [List.getElem?_toArray, List.getElem?_cons_zero, List.getElem?_cons_succ] at x05; have HW7 := Lib.hid (HW6.out.drew.keep hb7); have HB7 := Lib.hid hb7; clear hb7)
              | (refine step_append_lies _ (by rfl) (.tmp 48) (.tmp 59) _ (by rfl) w.heap.size 102 ip _ 2 16 Tryd.underlying114 HI.out.1 HI.out.2.1 HI.out.2.2.1 HI.out.2.2.2 rfl (by omega) (.slice (some ⟨gw, 0, none⟩) 2 2) 2 [.int .i64 (-1), .int .i64 (d : Int), .int .i64 r1, .int .i64 e1] (by rfl) (own_two (HW7.out.alloc _) hlow) _ 1 1 [.int .i64 (best R ls (p ++ [star]) (↑d + 1)), .int .i64 (best E ls (p ++ [star]) (↑d + 1))] (by rfl) rfl (cells_new _ #[.int .i64 (best R ls (p ++ [star]) (↑d + 1)), .int .i64 (best E ls (p ++ [star]) (↑d + 1))] _) (by intro u hu; simp at hu; rcases hu with rfl | rfl <;> rfl) (by omega) (by simp [maxLen]) (by omega) (by have := (HB7.out).size; have := HBE6.out.size; simp at *; omega) _ rfl ?_; intro g8 cap8 w8 hown8 hg8 hat8 hlt8; have x05 := (((HN6.out.drew.keep HB7.out).alloc _).grown hg8 (fun e => hbg (by simpa [Value.ownBlock] using e))).cell 0; simp only [List.getElem?_toArray, List.getElem?_cons_zero, List.getElem?_cons_succ] at x05; have HO8 := Lib.hid hown8; have HG8 := Lib.hid hg8; have HA8 := Lib.hid hat8; clear hown8 hg8 hat8 hlt8))
          have h7 := HB7.out
          have hbe8 : Below w.heap.size w w8 := ((belowOn HBE6.out.drew HBE6.out.size h7).alloc (Nat.le_trans HBE6.out.size (by have := h7.size; simpa using this)) _).grown HG8.out (by simp; have := HBE6.out.size; have := h7.size; simp at *; omega) (fun k e => by simp [Value.ownBlock] at e; omega)
          have b8 := ((HB06.out.drew.keep h7).alloc (.cells #[.int .i64 (best R ls (p ++ [star]) (↑d + 1)), .int .i64 (best E ls (p ++ [star]) (↑d + 1))] 102)).grown HG8.out (fun e => by simp [Value.ownBlock] at e; omega)
          have hrow8 : RowAt foundC 2 w8 (some ⟨g8, 0, none⟩) [((-1), (d : Int)), (r1, e1), (best R ls (p ++ [star]) (↑d + 1), best E ls (p ++ [star]) (↑d + 1))] := found_own HO8.out
          have HBE8 := Lib.hid hbe8
          have HB8 := Lib.hid b8
          have HROW8 := Lib.hid hrow8
          clear x05 h7 hbe8 b8 hrow8 x0 hlk
          go_wp2_with fail
          generalize hr2 : best R ls (p ++ [star]) (↑d + 1) = r2 at HROW8 ⊢
          generalize he2 : best E ls (p ++ [star]) (↑d + 1) = e2 at HROW8 ⊢
          have HRV2 := Lib.hid hr2
          have HEV2 := Lib.hid he2
          clear hr2 he2
          have hm := most_calls (some ⟨g8, 0, none⟩) cap8 [((-1), (d : Int)), (r1, e1), (r2, e2)] w8 HROW8.out (by simp)
          refine hm.mono ?_
          rintro e w9 ⟨rfl, hb9⟩
          have b9 := HB8.out.keep hb9
          have y0 := b9.cell 0
          have y1 := b9.cell 1
          have fy0 := b9.frozen 0
          have fy1 := b9.frozen 1
          simp only [List.getElem?_toArray, List.getElem?_cons_zero, List.getElem?_cons_succ] at y0 y1
          have HB9 := Lib.hid b9
          have HBE9 := Lib.hid (belowOn HBE8.out HBE8.out.size hb9)
          clear b9 hb9 hm
          go_wp2
          have hb10 := (HB9.out.set_ 0 (.int .i64 (mostL [((-1), (d : Int)), (r1, e1), (r2, e2)] (-1, -1)).1)).set_ 1 (.int .i64 (mostL [((-1), (d : Int)), (r1, e1), (r2, e2)] (-1, -1)).2)
          simp only [List.setIfInBounds_toArray, List.set_cons_zero, List.set_cons_succ] at hb10
          refine bodyPost_ret (results_cell_row rfl _ _ w.heap.size 102 _ (0, 0) _ rfl hb10 Tryd.underlying102 rfl (by kernel_rfl)) rfl ?_
          refine ⟨?_, (HBE9.out.setCell (p := ⟨w.heap.size, 0, none⟩) (by simp) _).setCell (p := ⟨w.heap.size, 1, none⟩) (by simp) _⟩
          simp only [mostL, HRV.out, HEV.out, HRV2.out, HEV2.out, if_neg HS.out]
          rw [show max (max (max (-1) (-1)) r1) r2 = max (-1) (max r1 r2) by omega, show max (max (max (-1) (d : Int)) e1) e2 = max (d : Int) (max e1 e2) by omega]
    · as_aux_lemma =>
        rw [hR] at c1
        rw [hE] at c2
        have hbR : ∀ ls, best R (s :: ls) p d = max (d : Int) (max (best R ls (p ++ [s]) (d + 1)) (if s = star then -1 else best R ls (p ++ [star]) (d + 1))) := fun ls => by simp [best, hR]
        have hbE : ∀ ls, best E (s :: ls) p d = max (-1) (max (best E ls (p ++ [s]) (d + 1)) (if s = star then -1 else best E ls (p ++ [star]) (d + 1))) := fun ls => by simp [best, hE]
        rw [hbR, hbE]
        clear hbR hbE hR hE
        go_enter Tryd.func75, Tryd.ntmps75
        go_wp2_with fail
        obtain ⟨bl0, bl1, hbe⟩ := walk_blocks w (d : Int) (-1)
        clear c0 c1 c2 l0
        generalize (w.alloc (.cells #[.int .i64 0, .int .i64 0] 102)).alloc (.cells #[.int .i64 (d : Int), .int .i64 (-1)] 102) = W at bl0 bl1 hbe ⊢
        have hT := H.out.keep hbe
        have hN := HN.out.keep hbe
        have hRow := HROW.out.keep hbe
        have x0 := bl1.cell 0
        have x1 := bl1.cell 1
        have c0 := hN.cell 0
        obtain ⟨g', off', e', l0⟩ := str_at hRow (i := 0) (a := s) rfl
        cases e'
        simp only [Nat.add_zero, List.getElem?_toArray, List.getElem?_cons_zero, List.getElem?_cons_succ] at x0 x1 c0 l0
        have hlk := (hT.keep (Below.refl _ _).drew).look HP.out s
        have HT := Lib.hid hT
        have HNW := Lib.hid hN
        have HRW := Lib.hid (HR1.out.keep hbe)
        have HROWW := Lib.hid hRow
        have HB0 := Lib.hid bl0
        have HB1 := Lib.hid bl1
        have HBE := Lib.hid hbe
        clear hT hN hRow bl0 bl1 hbe
        have hlen0 : (0 : Int) < (ls.length : Int) + 1 := by omega
        have hlen1 : (1 : Int) ≤ (ls.length : Int) + 1 := by omega
        have hlen2 : (ls.length : Int) + 1 ≤ (c : Int) := by omega
        have hdw : IntKind.i64.wrap ((d : Int) + 1) = ((d + 1 : Nat) : Int) := by rw [IntKind.wrap_i64]; omega
        have hih := HIH.out W.drew (p ++ [s]) A1 (c - 1) (d + 1) (HT.out.keep (Below.refl _ _).drew) (HRW.out.keep (Below.refl _ _).drew) (by omega) (by omega) (by omega)
        simp only [Int.natCast_add, Int.cast_ofNat_Int] at hih
        have HIH1 := Lib.hid hih
        clear hih
        go_region_held3 (fun w' => w'.cell? ⟨w.heap.size + 1, 0, none⟩ = some (.int .i64 (d : Int)) ∧ w'.cell? ⟨w.heap.size + 1, 1, none⟩ = some (.int .i64 (-1)) ∧ w'.cell? ⟨b, 0, none⟩ = some (.map om) ∧ w'.cell? ⟨g, off, none⟩ = some (.string s))
          (first | exact ⟨x0, x1, c0, l0⟩ | exact ⟨x05, x15, c05, l05⟩ | go_keep)
          (first
            | (go_at_call 75; refine HIH1.out.mono ?_; rintro e w5 ⟨rfl, hb5⟩; have x05 := (HB1.out.drew.keep hb5).cell 0; have x15 := (HB1.out.drew.keep hb5).cell 1; have c05 := (HNW.out.drew.keep hb5).cell 0; obtain ⟨g5, off5, e5, l05⟩ := str_at ((HROWW.out.keep (Below.refl _ _).drew).keep hb5) (i := 0) (a := s) rfl; cases e5; simp only [Nat.add_zero, List.getElem?_toArray, List.getElem?_cons_zero, List.getElem?_cons_succ] at x05 x15 c05 l05; have HB5 := Lib.hid hb5; clear hb5))
        have hb5 := HB5.out
        have hlow2 : w.heap.size < w5.heap.size := by have h1 := HB1.out.lt; have h2 := hb5.size; simp at h2; omega
        have hlow : w.heap.size ≤ w5.heap.size := Nat.le_trans HBE.out.size (by have := hb5.size; simpa using this)
        have hbe5 : Below w.heap.size w w5 := belowOn HBE.out.drew HBE.out.size hb5
        have W6 := Blk.new w5 102 #[.int .i64 (d : Int), .int .i64 (-1), .int .i64 (best R ls (p ++ [s]) (↑d + 1)), .int .i64 (best E ls (p ++ [s]) (↑d + 1))]
        have hb6 := (Below.refl w5.heap.size w5).alloc (Nat.le_refl _) (.cells #[.int .i64 (d : Int), .int .i64 (-1), .int .i64 (best R ls (p ++ [s]) (↑d + 1)), .int .i64 (best E ls (p ++ [s]) (↑d + 1))] 102)
        have B0 := ((HB0.out.drew.keep hb5).keep hb6)
        have hT6 := (((HT.out.keep (Below.refl _ _).drew).keep hb5).keep hb6)
        have hN6 := ((HNW.out.drew.keep hb5).keep hb6)
        have hR6 := (((HRW.out.keep (Below.refl _ _).drew).keep hb5).keep hb6)
        have hL6 := (((HROWW.out.keep (Below.refl _ _).drew).keep hb5).keep hb6)
        have hbe6 := belowOn hbe5 hlow hb6
        clear x05 x15 c05 l05 x0 x1 c0 l0 hlk hb5 hb6 hbe5
        generalize w5.alloc (.cells #[.int .i64 (d : Int), .int .i64 (-1), .int .i64 (best R ls (p ++ [s]) (↑d + 1)), .int .i64 (best E ls (p ++ [s]) (↑d + 1))] 102) = w6 at W6 B0 hT6 hN6 hR6 hL6 hbe6 ⊢
        generalize w5.heap.size = gw at W6 hlow hlow2 ⊢
        obtain ⟨g6, off6, e6, l6⟩ := str_at hL6 (i := 0) (a := s) rfl
        cases e6
        simp only [Nat.add_zero] at l6
        generalize hr1 : best R ls (p ++ [s]) (↑d + 1) = r1 at W6 ⊢
        generalize he1 : best E ls (p ++ [s]) (↑d + 1) = e1 at W6 ⊢
        have HRV := Lib.hid hr1
        have HEV := Lib.hid he1
        clear hr1 he1
        have HW6 := Lib.hid W6
        have HB06 := Lib.hid B0
        have HT6 := Lib.hid hT6
        have HN6 := Lib.hid hN6
        have HR6 := Lib.hid hR6
        have HBE6 := Lib.hid hbe6
        clear W6 B0 hT6 hN6 hR6 hL6 hbe6
        by_cases hs : s = star
        · have hbq : (s.toList == ([42] : List UInt8)) = true := by rw [← star_list]; exact str_beq_true hs
          have HS := Lib.hid hs
          clear hs
          go_wp2_with fail
          have hm := most_calls (some ⟨gw, 0, none⟩) 2 [((d : Int), (-1)), (r1, e1)] w6 (found_two HW6.out) (by simp)
          refine hm.mono ?_
          rintro e w7 ⟨rfl, hb7⟩
          have b7 := HB06.out.keep hb7
          have y0 := b7.cell 0
          have y1 := b7.cell 1
          have fy0 := b7.frozen 0
          have fy1 := b7.frozen 1
          simp only [List.getElem?_toArray, List.getElem?_cons_zero, List.getElem?_cons_succ] at y0 y1
          have HB7 := Lib.hid b7
          have HBE7 := Lib.hid (belowOn HBE6.out HBE6.out.size hb7)
          clear b7 hb7 hm
          go_wp2
          have hb8 := (HB7.out.set_ 0 (.int .i64 (mostL [((d : Int), (-1)), (r1, e1)] (-1, -1)).1)).set_ 1 (.int .i64 (mostL [((d : Int), (-1)), (r1, e1)] (-1, -1)).2)
          simp only [List.setIfInBounds_toArray, List.set_cons_zero, List.set_cons_succ] at hb8
          refine bodyPost_ret (results_cell_row rfl _ _ w.heap.size 102 _ (0, 0) _ rfl hb8 Tryd.underlying102 rfl (by kernel_rfl)) rfl ?_
          refine ⟨?_, (HBE7.out.setCell (p := ⟨w.heap.size, 0, none⟩) (by simp) _).setCell (p := ⟨w.heap.size, 1, none⟩) (by simp) _⟩
          have e1' := HRV.out
          have e2' := HEV.out
          have hs := HS.out
          subst hs
          simp only [mostL, e1', e2', if_true]
          exact found_ext _ _ _ _ (by omega) (by omega)
        · have hbq : (s.toList == ([42] : List UInt8)) = false := by rw [← star_list]; exact str_beq_false hs
          have HS := Lib.hid hs
          clear hs
          go_wp2_with fail
          have hbg : b ≠ gw := HN6.out.ne_ HW6.out (by decide)
          have x0 := HN6.out.cell 0
          simp only [List.getElem?_toArray, List.getElem?_cons_zero, List.getElem?_cons_succ] at x0
          have hlk : (Instr.lookup 69 (.map om) (.string ⟨#[42]⟩) false).run Tryd.prog w6.drew = .ok (ptrAt a (p ++ [star])) w6.drew := (HT6.out.keep (Below.refl _ _).drew).look HP.out star
          have hih := HIH.out w6.drew (p ++ [star]) A1 (c - 1) (d + 1) (HT6.out.keep (Below.refl _ _).drew) (HR6.out.keep (Below.refl _ _).drew) (by omega) (by omega) (by omega)
          simp only [Int.natCast_add, Int.cast_ofNat_Int] at hih
          have HIH2 := Lib.hid hih
          clear hih
          obtain ⟨ip, hip, hpz, hps, hpb⟩ := info_parts found_info
          have HI := Lib.hid (And.intro hip (And.intro hpz (And.intro hps hpb)))
          clear hip hpz hps hpb
          go_region_held3 (fun w' => w'.cell? ⟨b, 0, none⟩ = some (.map om))
            (first | exact x0 | exact x05 | go_keep)
            (first
              | (go_at_call 75; refine HIH2.out.mono ?_; rintro e w7 ⟨rfl, hb7⟩; have x05 := (HN6.out.drew.keep hb7).cell 0; simp only [List.getElem?_toArray, List.getElem?_cons_zero, List.getElem?_cons_succ] at x05; have HW7 := Lib.hid (HW6.out.drew.keep hb7); have HB7 := Lib.hid hb7; clear hb7)
              | (refine step_append_lies _ (by rfl) (.tmp 48) (.tmp 59) _ (by rfl) w.heap.size 102 ip _ 2 16 Tryd.underlying114 HI.out.1 HI.out.2.1 HI.out.2.2.1 HI.out.2.2.2 rfl (by omega) (.slice (some ⟨gw, 0, none⟩) 2 2) 2 [.int .i64 (d : Int), .int .i64 (-1), .int .i64 r1, .int .i64 e1] (by rfl) (own_two (HW7.out.alloc _) hlow) _ 1 1 [.int .i64 (best R ls (p ++ [star]) (↑d + 1)), .int .i64 (best E ls (p ++ [star]) (↑d + 1))] (by rfl) rfl (cells_new _ #[.int .i64 (best R ls (p ++ [star]) (↑d + 1)), .int .i64 (best E ls (p ++ [star]) (↑d + 1))] _) (by intro u hu; simp at hu; rcases hu with rfl | rfl <;> rfl) (by omega) (by simp [maxLen]) (by omega) (by have := (HB7.out).size; have := HBE6.out.size; simp at *; omega) _ rfl ?_; intro g8 cap8 w8 hown8 hg8 hat8 hlt8; have x05 := (((HN6.out.drew.keep HB7.out).alloc _).grown hg8 (fun e => hbg (by simpa [Value.ownBlock] using e))).cell 0; simp only [List.getElem?_toArray, List.getElem?_cons_zero, List.getElem?_cons_succ] at x05; have HO8 := Lib.hid hown8; have HG8 := Lib.hid hg8; have HA8 := Lib.hid hat8; clear hown8 hg8 hat8 hlt8))
          have h7 := HB7.out
          have hbe8 : Below w.heap.size w w8 := ((belowOn HBE6.out.drew HBE6.out.size h7).alloc (Nat.le_trans HBE6.out.size (by have := h7.size; simpa using this)) _).grown HG8.out (by simp; have := HBE6.out.size; have := h7.size; simp at *; omega) (fun k e => by simp [Value.ownBlock] at e; omega)
          have b8 := ((HB06.out.drew.keep h7).alloc (.cells #[.int .i64 (best R ls (p ++ [star]) (↑d + 1)), .int .i64 (best E ls (p ++ [star]) (↑d + 1))] 102)).grown HG8.out (fun e => by simp [Value.ownBlock] at e; omega)
          have hrow8 : RowAt foundC 2 w8 (some ⟨g8, 0, none⟩) [((d : Int), (-1)), (r1, e1), (best R ls (p ++ [star]) (↑d + 1), best E ls (p ++ [star]) (↑d + 1))] := found_own HO8.out
          have HBE8 := Lib.hid hbe8
          have HB8 := Lib.hid b8
          have HROW8 := Lib.hid hrow8
          clear x05 h7 hbe8 b8 hrow8 x0 hlk
          go_wp2_with fail
          generalize hr2 : best R ls (p ++ [star]) (↑d + 1) = r2 at HROW8 ⊢
          generalize he2 : best E ls (p ++ [star]) (↑d + 1) = e2 at HROW8 ⊢
          have HRV2 := Lib.hid hr2
          have HEV2 := Lib.hid he2
          clear hr2 he2
          have hm := most_calls (some ⟨g8, 0, none⟩) cap8 [((d : Int), (-1)), (r1, e1), (r2, e2)] w8 HROW8.out (by simp)
          refine hm.mono ?_
          rintro e w9 ⟨rfl, hb9⟩
          have b9 := HB8.out.keep hb9
          have y0 := b9.cell 0
          have y1 := b9.cell 1
          have fy0 := b9.frozen 0
          have fy1 := b9.frozen 1
          simp only [List.getElem?_toArray, List.getElem?_cons_zero, List.getElem?_cons_succ] at y0 y1
          have HB9 := Lib.hid b9
          have HBE9 := Lib.hid (belowOn HBE8.out HBE8.out.size hb9)
          clear b9 hb9 hm
          go_wp2
          have hb10 := (HB9.out.set_ 0 (.int .i64 (mostL [((d : Int), (-1)), (r1, e1), (r2, e2)] (-1, -1)).1)).set_ 1 (.int .i64 (mostL [((d : Int), (-1)), (r1, e1), (r2, e2)] (-1, -1)).2)
          simp only [List.setIfInBounds_toArray, List.set_cons_zero, List.set_cons_succ] at hb10
          refine bodyPost_ret (results_cell_row rfl _ _ w.heap.size 102 _ (0, 0) _ rfl hb10 Tryd.underlying102 rfl (by kernel_rfl)) rfl ?_
          refine ⟨?_, (HBE9.out.setCell (p := ⟨w.heap.size, 0, none⟩) (by simp) _).setCell (p := ⟨w.heap.size, 1, none⟩) (by simp) _⟩
          simp only [mostL, HRV.out, HEV.out, HRV2.out, HEV2.out, if_neg HS.out]
          rw [show max (max (max (-1) (d : Int)) r1) r2 = max (d : Int) (max r1 r2) by omega, show max (max (max (-1) (-1)) e1) e2 = max (-1) (max e1 e2) by omega]
    · as_aux_lemma =>
        rw [hR] at c1
        rw [hE] at c2
        have hbR : ∀ ls, best R (s :: ls) p d = max (d : Int) (max (best R ls (p ++ [s]) (d + 1)) (if s = star then -1 else best R ls (p ++ [star]) (d + 1))) := fun ls => by simp [best, hR]
        have hbE : ∀ ls, best E (s :: ls) p d = max (d : Int) (max (best E ls (p ++ [s]) (d + 1)) (if s = star then -1 else best E ls (p ++ [star]) (d + 1))) := fun ls => by simp [best, hE]
        rw [hbR, hbE]
        clear hbR hbE hR hE
        go_enter Tryd.func75, Tryd.ntmps75
        go_wp2_with fail
        obtain ⟨bl0, bl1, hbe⟩ := walk_blocks w (d : Int) (d : Int)
        clear c0 c1 c2 l0
        generalize (w.alloc (.cells #[.int .i64 0, .int .i64 0] 102)).alloc (.cells #[.int .i64 (d : Int), .int .i64 (d : Int)] 102) = W at bl0 bl1 hbe ⊢
        have hT := H.out.keep hbe
        have hN := HN.out.keep hbe
        have hRow := HROW.out.keep hbe
        have x0 := bl1.cell 0
        have x1 := bl1.cell 1
        have c0 := hN.cell 0
        obtain ⟨g', off', e', l0⟩ := str_at hRow (i := 0) (a := s) rfl
        cases e'
        simp only [Nat.add_zero, List.getElem?_toArray, List.getElem?_cons_zero, List.getElem?_cons_succ] at x0 x1 c0 l0
        have hlk := (hT.keep (Below.refl _ _).drew).look HP.out s
        have HT := Lib.hid hT
        have HNW := Lib.hid hN
        have HRW := Lib.hid (HR1.out.keep hbe)
        have HROWW := Lib.hid hRow
        have HB0 := Lib.hid bl0
        have HB1 := Lib.hid bl1
        have HBE := Lib.hid hbe
        clear hT hN hRow bl0 bl1 hbe
        have hlen0 : (0 : Int) < (ls.length : Int) + 1 := by omega
        have hlen1 : (1 : Int) ≤ (ls.length : Int) + 1 := by omega
        have hlen2 : (ls.length : Int) + 1 ≤ (c : Int) := by omega
        have hdw : IntKind.i64.wrap ((d : Int) + 1) = ((d + 1 : Nat) : Int) := by rw [IntKind.wrap_i64]; omega
        have hih := HIH.out W.drew (p ++ [s]) A1 (c - 1) (d + 1) (HT.out.keep (Below.refl _ _).drew) (HRW.out.keep (Below.refl _ _).drew) (by omega) (by omega) (by omega)
        simp only [Int.natCast_add, Int.cast_ofNat_Int] at hih
        have HIH1 := Lib.hid hih
        clear hih
        go_region_held3 (fun w' => w'.cell? ⟨w.heap.size + 1, 0, none⟩ = some (.int .i64 (d : Int)) ∧ w'.cell? ⟨w.heap.size + 1, 1, none⟩ = some (.int .i64 (d : Int)) ∧ w'.cell? ⟨b, 0, none⟩ = some (.map om) ∧ w'.cell? ⟨g, off, none⟩ = some (.string s))
          (first | exact ⟨x0, x1, c0, l0⟩ | exact ⟨x05, x15, c05, l05⟩ | go_keep)
          (first
            | (go_at_call 75; refine HIH1.out.mono ?_; rintro e w5 ⟨rfl, hb5⟩; have x05 := (HB1.out.drew.keep hb5).cell 0; have x15 := (HB1.out.drew.keep hb5).cell 1; have c05 := (HNW.out.drew.keep hb5).cell 0; obtain ⟨g5, off5, e5, l05⟩ := str_at ((HROWW.out.keep (Below.refl _ _).drew).keep hb5) (i := 0) (a := s) rfl; cases e5; simp only [Nat.add_zero, List.getElem?_toArray, List.getElem?_cons_zero, List.getElem?_cons_succ] at x05 x15 c05 l05; have HB5 := Lib.hid hb5; clear hb5))
        have hb5 := HB5.out
        have hlow2 : w.heap.size < w5.heap.size := by have h1 := HB1.out.lt; have h2 := hb5.size; simp at h2; omega
        have hlow : w.heap.size ≤ w5.heap.size := Nat.le_trans HBE.out.size (by have := hb5.size; simpa using this)
        have hbe5 : Below w.heap.size w w5 := belowOn HBE.out.drew HBE.out.size hb5
        have W6 := Blk.new w5 102 #[.int .i64 (d : Int), .int .i64 (d : Int), .int .i64 (best R ls (p ++ [s]) (↑d + 1)), .int .i64 (best E ls (p ++ [s]) (↑d + 1))]
        have hb6 := (Below.refl w5.heap.size w5).alloc (Nat.le_refl _) (.cells #[.int .i64 (d : Int), .int .i64 (d : Int), .int .i64 (best R ls (p ++ [s]) (↑d + 1)), .int .i64 (best E ls (p ++ [s]) (↑d + 1))] 102)
        have B0 := ((HB0.out.drew.keep hb5).keep hb6)
        have hT6 := (((HT.out.keep (Below.refl _ _).drew).keep hb5).keep hb6)
        have hN6 := ((HNW.out.drew.keep hb5).keep hb6)
        have hR6 := (((HRW.out.keep (Below.refl _ _).drew).keep hb5).keep hb6)
        have hL6 := (((HROWW.out.keep (Below.refl _ _).drew).keep hb5).keep hb6)
        have hbe6 := belowOn hbe5 hlow hb6
        clear x05 x15 c05 l05 x0 x1 c0 l0 hlk hb5 hb6 hbe5
        generalize w5.alloc (.cells #[.int .i64 (d : Int), .int .i64 (d : Int), .int .i64 (best R ls (p ++ [s]) (↑d + 1)), .int .i64 (best E ls (p ++ [s]) (↑d + 1))] 102) = w6 at W6 B0 hT6 hN6 hR6 hL6 hbe6 ⊢
        generalize w5.heap.size = gw at W6 hlow hlow2 ⊢
        obtain ⟨g6, off6, e6, l6⟩ := str_at hL6 (i := 0) (a := s) rfl
        cases e6
        simp only [Nat.add_zero] at l6
        generalize hr1 : best R ls (p ++ [s]) (↑d + 1) = r1 at W6 ⊢
        generalize he1 : best E ls (p ++ [s]) (↑d + 1) = e1 at W6 ⊢
        have HRV := Lib.hid hr1
        have HEV := Lib.hid he1
        clear hr1 he1
        have HW6 := Lib.hid W6
        have HB06 := Lib.hid B0
        have HT6 := Lib.hid hT6
        have HN6 := Lib.hid hN6
        have HR6 := Lib.hid hR6
        have HBE6 := Lib.hid hbe6
        clear W6 B0 hT6 hN6 hR6 hL6 hbe6
        by_cases hs : s = star
        · have hbq : (s.toList == ([42] : List UInt8)) = true := by rw [← star_list]; exact str_beq_true hs
          have HS := Lib.hid hs
          clear hs
          go_wp2_with fail
          have hm := most_calls (some ⟨gw, 0, none⟩) 2 [((d : Int), (d : Int)), (r1, e1)] w6 (found_two HW6.out) (by simp)
          refine hm.mono ?_
          rintro e w7 ⟨rfl, hb7⟩
          have b7 := HB06.out.keep hb7
          have y0 := b7.cell 0
          have y1 := b7.cell 1
          have fy0 := b7.frozen 0
          have fy1 := b7.frozen 1
          simp only [List.getElem?_toArray, List.getElem?_cons_zero, List.getElem?_cons_succ] at y0 y1
          have HB7 := Lib.hid b7
          have HBE7 := Lib.hid (belowOn HBE6.out HBE6.out.size hb7)
          clear b7 hb7 hm
          go_wp2
          have hb8 := (HB7.out.set_ 0 (.int .i64 (mostL [((d : Int), (d : Int)), (r1, e1)] (-1, -1)).1)).set_ 1 (.int .i64 (mostL [((d : Int), (d : Int)), (r1, e1)] (-1, -1)).2)
          simp only [List.setIfInBounds_toArray, List.set_cons_zero, List.set_cons_succ] at hb8
          refine bodyPost_ret (results_cell_row rfl _ _ w.heap.size 102 _ (0, 0) _ rfl hb8 Tryd.underlying102 rfl (by kernel_rfl)) rfl ?_
          refine ⟨?_, (HBE7.out.setCell (p := ⟨w.heap.size, 0, none⟩) (by simp) _).setCell (p := ⟨w.heap.size, 1, none⟩) (by simp) _⟩
          have e1' := HRV.out
          have e2' := HEV.out
          have hs := HS.out
          subst hs
          simp only [mostL, e1', e2', if_true]
          exact found_ext _ _ _ _ (by omega) (by omega)
        · have hbq : (s.toList == ([42] : List UInt8)) = false := by rw [← star_list]; exact str_beq_false hs
          have HS := Lib.hid hs
          clear hs
          go_wp2_with fail
          have hbg : b ≠ gw := HN6.out.ne_ HW6.out (by decide)
          have x0 := HN6.out.cell 0
          simp only [List.getElem?_toArray, List.getElem?_cons_zero, List.getElem?_cons_succ] at x0
          have hlk : (Instr.lookup 69 (.map om) (.string ⟨#[42]⟩) false).run Tryd.prog w6.drew = .ok (ptrAt a (p ++ [star])) w6.drew := (HT6.out.keep (Below.refl _ _).drew).look HP.out star
          have hih := HIH.out w6.drew (p ++ [star]) A1 (c - 1) (d + 1) (HT6.out.keep (Below.refl _ _).drew) (HR6.out.keep (Below.refl _ _).drew) (by omega) (by omega) (by omega)
          simp only [Int.natCast_add, Int.cast_ofNat_Int] at hih
          have HIH2 := Lib.hid hih
          clear hih
          obtain ⟨ip, hip, hpz, hps, hpb⟩ := info_parts found_info
          have HI := Lib.hid (And.intro hip (And.intro hpz (And.intro hps hpb)))
          clear hip hpz hps hpb
          go_region_held3 (fun w' => w'.cell? ⟨b, 0, none⟩ = some (.map om))
            (first | exact x0 | exact x05 | go_keep)
            (first
              | (go_at_call 75; refine HIH2.out.mono ?_; rintro e w7 ⟨rfl, hb7⟩; have x05 := (HN6.out.drew.keep hb7).cell 0; simp only [List.getElem?_toArray, List.getElem?_cons_zero, List.getElem?_cons_succ] at x05; have HW7 := Lib.hid (HW6.out.drew.keep hb7); have HB7 := Lib.hid hb7; clear hb7)
              | (refine step_append_lies _ (by rfl) (.tmp 48) (.tmp 59) _ (by rfl) w.heap.size 102 ip _ 2 16 Tryd.underlying114 HI.out.1 HI.out.2.1 HI.out.2.2.1 HI.out.2.2.2 rfl (by omega) (.slice (some ⟨gw, 0, none⟩) 2 2) 2 [.int .i64 (d : Int), .int .i64 (d : Int), .int .i64 r1, .int .i64 e1] (by rfl) (own_two (HW7.out.alloc _) hlow) _ 1 1 [.int .i64 (best R ls (p ++ [star]) (↑d + 1)), .int .i64 (best E ls (p ++ [star]) (↑d + 1))] (by rfl) rfl (cells_new _ #[.int .i64 (best R ls (p ++ [star]) (↑d + 1)), .int .i64 (best E ls (p ++ [star]) (↑d + 1))] _) (by intro u hu; simp at hu; rcases hu with rfl | rfl <;> rfl) (by omega) (by simp [maxLen]) (by omega) (by have := (HB7.out).size; have := HBE6.out.size; simp at *; omega) _ rfl ?_; intro g8 cap8 w8 hown8 hg8 hat8 hlt8; have x05 := (((HN6.out.drew.keep HB7.out).alloc _).grown hg8 (fun e => hbg (by simpa [Value.ownBlock] using e))).cell 0; simp only [List.getElem?_toArray, List.getElem?_cons_zero, List.getElem?_cons_succ] at x05; have HO8 := Lib.hid hown8; have HG8 := Lib.hid hg8; have HA8 := Lib.hid hat8; clear hown8 hg8 hat8 hlt8))
          have h7 := HB7.out
          have hbe8 : Below w.heap.size w w8 := ((belowOn HBE6.out.drew HBE6.out.size h7).alloc (Nat.le_trans HBE6.out.size (by have := h7.size; simpa using this)) _).grown HG8.out (by simp; have := HBE6.out.size; have := h7.size; simp at *; omega) (fun k e => by simp [Value.ownBlock] at e; omega)
          have b8 := ((HB06.out.drew.keep h7).alloc (.cells #[.int .i64 (best R ls (p ++ [star]) (↑d + 1)), .int .i64 (best E ls (p ++ [star]) (↑d + 1))] 102)).grown HG8.out (fun e => by simp [Value.ownBlock] at e; omega)
          have hrow8 : RowAt foundC 2 w8 (some ⟨g8, 0, none⟩) [((d : Int), (d : Int)), (r1, e1), (best R ls (p ++ [star]) (↑d + 1), best E ls (p ++ [star]) (↑d + 1))] := found_own HO8.out
          have HBE8 := Lib.hid hbe8
          have HB8 := Lib.hid b8
          have HROW8 := Lib.hid hrow8
          clear x05 h7 hbe8 b8 hrow8 x0 hlk
          go_wp2_with fail
          generalize hr2 : best R ls (p ++ [star]) (↑d + 1) = r2 at HROW8 ⊢
          generalize he2 : best E ls (p ++ [star]) (↑d + 1) = e2 at HROW8 ⊢
          have HRV2 := Lib.hid hr2
          have HEV2 := Lib.hid he2
          clear hr2 he2
          have hm := most_calls (some ⟨g8, 0, none⟩) cap8 [((d : Int), (d : Int)), (r1, e1), (r2, e2)] w8 HROW8.out (by simp)
          refine hm.mono ?_
          rintro e w9 ⟨rfl, hb9⟩
          have b9 := HB8.out.keep hb9
          have y0 := b9.cell 0
          have y1 := b9.cell 1
          have fy0 := b9.frozen 0
          have fy1 := b9.frozen 1
          simp only [List.getElem?_toArray, List.getElem?_cons_zero, List.getElem?_cons_succ] at y0 y1
          have HB9 := Lib.hid b9
          have HBE9 := Lib.hid (belowOn HBE8.out HBE8.out.size hb9)
          clear b9 hb9 hm
          go_wp2
          have hb10 := (HB9.out.set_ 0 (.int .i64 (mostL [((d : Int), (d : Int)), (r1, e1), (r2, e2)] (-1, -1)).1)).set_ 1 (.int .i64 (mostL [((d : Int), (d : Int)), (r1, e1), (r2, e2)] (-1, -1)).2)
          simp only [List.setIfInBounds_toArray, List.set_cons_zero, List.set_cons_succ] at hb10
          refine bodyPost_ret (results_cell_row rfl _ _ w.heap.size 102 _ (0, 0) _ rfl hb10 Tryd.underlying102 rfl (by kernel_rfl)) rfl ?_
          refine ⟨?_, (HBE9.out.setCell (p := ⟨w.heap.size, 0, none⟩) (by simp) _).setCell (p := ⟨w.heap.size, 1, none⟩) (by simp) _⟩
          simp only [mostL, HRV.out, HEV.out, HRV2.out, HEV2.out, if_neg HS.out]
          rw [show max (max (max (-1) (d : Int)) r1) r2 = max (d : Int) (max r1 r2) by omega, show max (max (max (-1) (d : Int)) e1) e2 = max (d : Int) (max e1 e2) by omega]
end Go.Proofs.YtgljkgkmbfhgiaaDoor
