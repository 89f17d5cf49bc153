/- A trie of rules, made; what it tells. -/
import Derived.Test.YtgljkgkmbfhgiaaDoorTrieTree
import Derived.Deep.LoopGhost
import Derived.LoopTactic
import Derived.Deep.RegionHeld3
import Derived.BigQuiet
import Derived.Deep.Cut
import Derived.WalkLawsBesides
set_option linter.unusedSimpArgs false
set_option linter.unusedVariables false
namespace Go.Proofs.YtgljkgkmbfhgiaaDoor
open Go.RowKit
attribute [local go_sem] max_i64 min_i64

/-- A rule as a list holds it. -/
structure RulV where
  A : Option Addr
  c : Nat
  r : Rule
def RulV.cells (x : RulV) : List Value := [.slice x.A x.r.labels.length x.c, .bool x.r.except]
def RulV.ok (w : World) (x : RulV) : Prop := x.r.labels.length ≤ x.c ∧ x.c ≤ maxLen ∧ RowAt strC 1 w x.A x.r.labels
theorem RulV.ok.keep {w w' : World} {x : RulV} (h : x.ok w) (hb : Below w.heap.size w w') : x.ok w' := ⟨h.1, h.2.1, h.2.2.keep hb⟩
theorem rul_at {w : World} {A : Option Addr} {l : List RulV} (h : RowAt RulV.cells 2 w A l) {i : Nat} {a : RulV} (hi : l[i]? = some a) :
    ∃ b off, A = some ⟨b, off, none⟩ ∧ w.cell? ⟨b, off + i * 2, none⟩ = some (.slice a.A a.r.labels.length a.c) ∧ w.cell? ⟨b, off + i * 2 + 1, none⟩ = some (.bool a.r.except) := by
  obtain ⟨b, off, e, hc⟩ := h i a hi
  exact ⟨b, off, e, hc 0 _ rfl, hc 1 _ rfl⟩
/-- A trie of these rules. -/
structure TrieOk (w : World) (t : Nat) (a : Addrs) (l : List Rule) (v : Int) : Prop where
  blk : Blk w t 73 #[ptrAt a [], .int .i64 v]
  tree : TrieAt w a (ends l false) (ends l true)
theorem TrieOk.keep {w w' : World} {t : Nat} {a : Addrs} {l : List Rule} {v : Int} (h : TrieOk w t a l v) (hb : Below w.heap.size w w') : TrieOk w' t a l v := ⟨h.blk.keep hb, h.tree.keep hb⟩

theorem suffix_nil (w : World) (A : Option Addr) (n c : Nat) :
    Calls Tryd.prog 59 #[.pointer none, .slice A n c] w fun e w' => e = .returned (.int .i64 (min (n : Int) 1)) ∧ Below w.heap.size w w' := by
  go_enter Tryd.func59, Tryd.ntmps59
  go_wp2
  go_ret
  exact ⟨rfl, (Below.refl _ w).alloc (Nat.le_refl _) _⟩
set_option maxHeartbeats 1000000 in
theorem suffix_calls {w : World} {t : Nat} {a : Addrs} {l : List Rule} {v : Int} (h : TrieOk w t a l v) (A : Option Addr) (c : Nat) (ls : List ByteArray) (hr : RowAt strC 1 w A ls) (hc : ls.length ≤ c) (hcm : c ≤ maxLen) (hl : ls.length ≤ 900) :
    Calls Tryd.prog 59 #[.pointer (some ⟨t, 0, none⟩), .slice A ls.length c] w fun e w' => e = .returned (.int .i64 (suffixR l ls)) ∧ Below w.heap.size w w' := by
  have x0 := (h.blk.alloc (.cells #[.int .i64 (-1), .int .i64 (-1)] 102)).cell 0
  have hlt := h.blk.lt
  have hlt1 : t < w.heap.size + 1 := by omega
  simp only [List.getElem?_toArray, List.getElem?_cons_zero, List.getElem?_cons_succ] at x0
  have hwalk := walk_all ls (w.alloc (.cells #[.int .i64 (-1), .int .i64 (-1)] 102)) [] A c 0 (h.tree.keep ((Below.refl _ w).alloc (Nat.le_refl _) _)) (hr.keep ((Below.refl _ w).alloc (Nat.le_refl _) _)) hc hcm (by omega)
  have hle := longest_le ls true l
  have hle2 := longest_le ls false l
  simp only [Int.cast_ofNat_Int] at hwalk
  rw [best_longest, best_longest] at hwalk
  unfold suffixR pick
  generalize longestR ls true l (-1) = x at *
  generalize longestR ls false l (-1) = y at *
  have HW := Lib.hid hwalk
  clear hwalk hr h
  have hb0 := Blk.new w 102 #[.int .i64 (-1), .int .i64 (-1)]
  have hbe := (Below.refl _ w).alloc (Nat.le_refl _) (.cells #[.int .i64 (-1), .int .i64 (-1)] 102)
  have HB := Lib.hid hb0
  have HBE := Lib.hid hbe
  clear hb0 hbe
  have hw1 : IntKind.i64.wrap (x - 1) = x - 1 := by rw [IntKind.wrap_i64]; simp only [maxLen] at hcm; omega
  go_enter Tryd.func59, Tryd.ntmps59
  by_cases hx : x ≥ 0
  · go_wp2_with (go_at_call 75; refine HW.out.mono ?_; rintro e w1 ⟨rfl, hb1⟩; have b1 := HB.out.keep hb1; have y0 := b1.cell 0; have y1 := b1.cell 1; have fy0 := b1.frozen 0; have fy1 := b1.frozen 1; have HB1 := Lib.hid b1; have HBE1 := Lib.hid (belowOn HBE.out HBE.out.size hb1); simp only [List.getElem?_toArray, List.getElem?_cons_zero, List.getElem?_cons_succ] at y0 y1; clear b1 hb1)
    go_ret
    exact ⟨rfl, (HBE1.out.setCell (p := ⟨w.heap.size, 0, none⟩) (by simp) _).setCell (p := ⟨w.heap.size, 1, none⟩) (by simp) _⟩
  · by_cases hy : y ≥ 0
    · go_wp2_with (go_at_call 75; refine HW.out.mono ?_; rintro e w1 ⟨rfl, hb1⟩; have b1 := HB.out.keep hb1; have y0 := b1.cell 0; have y1 := b1.cell 1; have fy0 := b1.frozen 0; have fy1 := b1.frozen 1; have HB1 := Lib.hid b1; have HBE1 := Lib.hid (belowOn HBE.out HBE.out.size hb1); simp only [List.getElem?_toArray, List.getElem?_cons_zero, List.getElem?_cons_succ] at y0 y1; clear b1 hb1)
      go_ret
      exact ⟨rfl, (HBE1.out.setCell (p := ⟨w.heap.size, 0, none⟩) (by simp) _).setCell (p := ⟨w.heap.size, 1, none⟩) (by simp) _⟩
    · go_wp2_with (go_at_call 75; refine HW.out.mono ?_; rintro e w1 ⟨rfl, hb1⟩; have b1 := HB.out.keep hb1; have y0 := b1.cell 0; have y1 := b1.cell 1; have fy0 := b1.frozen 0; have fy1 := b1.frozen 1; have HB1 := Lib.hid b1; have HBE1 := Lib.hid (belowOn HBE.out HBE.out.size hb1); simp only [List.getElem?_toArray, List.getElem?_cons_zero, List.getElem?_cons_succ] at y0 y1; clear b1 hb1)
      go_ret
      exact ⟨rfl, (HBE1.out.setCell (p := ⟨w.heap.size, 0, none⟩) (by simp) _).setCell (p := ⟨w.heap.size, 1, none⟩) (by simp) _⟩

theorem ends_snoc (l : List Rule) (r : Rule) (e : Bool) : ends (l ++ [r]) e = fun q => if q = r.labels then (ends l e q || decide (r.except = e)) else ends l e q := by
  funext q
  simp only [ends, List.any_append, List.any_cons, List.any_nil, Bool.or_false]
  by_cases h : q = r.labels
  · subst h; simp
  · have h' : ¬ r.labels = q := fun e => h e.symm
    simp [h, h']

theorem Tree.rule' {B : Nat} {w : World} {a : Addrs} {L : List Rule} (h : Tree B w a (ends L false) (ends L true)) (r : Rule) {b : Nat} {om : Option Nat} (hp : a r.labels = some (b, om)) (x y : Bool) (hx : x = (ends L false r.labels || !r.except)) (hy : y = (ends L true r.labels || r.except)) :
    Tree B ((w.setCell ⟨b, 1, none⟩ (.bool x)).setCell ⟨b, 2, none⟩ (.bool y)) a (ends (L ++ [r]) false) (ends (L ++ [r]) true) := by
  have := h.rule hp x y
  rw [ends_snoc, ends_snoc]
  have e1 : (fun q => if q = r.labels then x else ends L false q) = (fun q => if q = r.labels then (ends L false q || decide (r.except = false)) else ends L false q) := by
    funext q
    by_cases hq : q = r.labels
    · rw [if_pos hq, if_pos hq, hx, hq]; cases r.except <;> simp
    · rw [if_neg hq, if_neg hq]
  have e2 : (fun q => if q = r.labels then y else ends L true q) = (fun q => if q = r.labels then (ends L true q || decide (r.except = true)) else ends L true q) := by
    funext q
    by_cases hq : q = r.labels
    · rw [if_pos hq, if_pos hq, hy, hq]; cases r.except <;> simp
    · rw [if_neg hq, if_neg hq]
  rw [← e1, ← e2]
  exact this
theorem wrap_up (i n c : Nat) (h : i < n) (h2 : n ≤ c) (h3 : c ≤ maxLen) : Value.int .i64 (wrap64 ((i : Int) + 1)) = .int .i64 ((i + 1 : Nat) : Int) := by
  simp only [maxLen] at h3
  rw [show wrap64 ((i : Int) + 1) = ((i + 1 : Nat) : Int) by unfold wrap64; omega]
theorem take_snoc {α : Type} {l : List α} {i : Nat} {x : α} (h : l[i]? = some x) : l.take (i + 1) = l.take i ++ [x] := by
  obtain ⟨hi, rfl⟩ := List.getElem?_eq_some_iff.1 h
  simp

theorem eql_map_nil (w : World) : (binOp .eql 69 (.map none) (.map none)).run Tryd.prog w = .ok (.bool true) w := by
  have h : ∀ d, (Op.equalIn (d + 1) 69 (.map none) (.map none)).run Tryd.prog w = .ok true w := fun d => by simp [Op.equalIn, run_underlying Tryd.underlying69]
  simp [binOp, Op.equal, Op.maxDepth, h 9999]
theorem eql_map_some (b : Nat) (w : World) : (binOp .eql 69 (.map (some b)) (.map none)).run Tryd.prog w = .ok (.bool false) w := by
  have h : ∀ d, (Op.equalIn (d + 1) 69 (.map (some b)) (.map none)).run Tryd.prog w = .ok false w := fun d => by simp [Op.equalIn, run_underlying Tryd.underlying69]
  simp [binOp, Op.equal, Op.maxDepth, h 9999]
set_option maxRecDepth 100000 in
set_option maxHeartbeats 4000000 in
theorem new_calls (A : Option Addr) (c : Nat) (l : List RulV) (w : World) (ver : Int) (h : RowAt RulV.cells 2 w A l) (hok : ∀ x ∈ l, x.ok w) (hlc : l.length ≤ c) (hcm : c ≤ maxLen) :
    Calls Tryd.prog 25 #[.slice A l.length c, .int .i64 ver] w fun e w' => (∃ t a, e = .returned (.pointer (some ⟨t, 0, none⟩)) ∧ TrieOk w' t a (l.map (·.r)) ver) ∧ Below w.heap.size w w' := by
  have hmm := @run_makeMap Tryd.prog
  have hen := eql_map_nil
  have hes := eql_map_some
  have H := Lib.hid h
  have HOK := Lib.hid hok
  clear h hok
  go_enter Tryd.func25, Tryd.ntmps25
  go_wp2
  have t0 := (Tree.start (B := w.heap.size) w (Nat.le_refl _)).alloc (.cells #[.pointer (some ⟨w.heap.size, 0, none⟩), .int .i64 ver] 73)
  have b0 : Blk ((w.alloc (.cells #[.map none, .bool false, .bool false] 71)).alloc (.cells #[.pointer (some ⟨w.heap.size, 0, none⟩), .int .i64 ver] 73)) (w.heap.size + 1) 73 #[.pointer (some ⟨w.heap.size, 0, none⟩), .int .i64 ver] := by
    have := Blk.new (w.alloc (.cells #[.map none, .bool false, .bool false] 71)) 73 #[.pointer (some ⟨w.heap.size, 0, none⟩), .int .i64 ver]
    simpa using this
  have hb := ((Below.refl w.heap.size w).alloc (Nat.le_refl _) (.cells #[.map none, .bool false, .bool false] 71)).alloc (by simp) (.cells #[.pointer (some ⟨w.heap.size, 0, none⟩), .int .i64 ver] 73)
  have T0 := Lib.hid t0
  have B0 := Lib.hid b0
  have HB := Lib.hid hb
  clear t0 b0 hb
  generalize (w.alloc (.cells #[.map none, .bool false, .bool false] 71)).alloc (.cells #[.pointer (some ⟨w.heap.size, 0, none⟩), .int .i64 ver] 73) = W at T0 B0 HB ⊢
  go_loopg [18, 7, 8, 10, 29] l.length (fun n v18 v7 v8 v10 v29 w' => Hid (∃ (i : Nat) (a : Addrs), v18 = .int .i64 i ∧ i ≤ l.length ∧ n = l.length - i ∧ a [] = some (w.heap.size, (a []).bind (·.2)) ∧ Blk w' (w.heap.size + 1) 73 #[.pointer (some ⟨w.heap.size, 0, none⟩), .int .i64 ver] ∧ Tree w.heap.size w' a (ends ((l.take i).map (·.r)) false) (ends ((l.take i).map (·.r)) true) ∧ Below w.heap.size w w'))
  case atStart => exact ⟨0, _, rfl, Nat.zero_le _, rfl, by simp, B0.out, T0.out, HB.out⟩
  case round =>
    obtain ⟨i, a, rfl, hi, hn, ha, b0, tr, hb⟩ := hrel.out
    clear hrel T0 B0 HB
    have HN := Lib.hid hn
    have HAR := Lib.hid ha
    have B0 := Lib.hid b0
    have TR := Lib.hid tr
    have HB := Lib.hid hb
    clear hn ha b0 tr hb
    by_cases hlt : i < l.length
    · obtain ⟨x, hx⟩ : ∃ x, l[i]? = some x := ⟨l[i]'hlt, List.getElem?_eq_getElem hlt⟩
      obtain ⟨b, off, rfl, c0, c1⟩ := rul_at (H.out.keep HB.out) hx
      have HX := Lib.hid hx
      have HXO := Lib.hid ((HOK.out x (List.mem_of_getElem? hx)).keep HB.out)
      have t0 := B0.out.cell 0
      simp only [List.getElem?_toArray, List.getElem?_cons_zero, List.getElem?_cons_succ] at t0
      have hlt0 := B0.out.lt
      clear hx
      go_wp2
      have RB := Lib.hid (Blk.new wr 67 #[.slice x.A x.r.labels.length x.c, .bool x.r.except])
      have TR1 := Lib.hid (TR.out.alloc (.cells #[.slice x.A x.r.labels.length x.c, .bool x.r.except] 67))
      have HB1 := Lib.hid (HB.out.alloc HB.out.size (.cells #[.slice x.A x.r.labels.length x.c, .bool x.r.except] 67))
      have B01 := Lib.hid (B0.out.alloc (.cells #[.slice x.A x.r.labels.length x.c, .bool x.r.except] 67))
      have HBR := Lib.hid HB.out.size
      clear TR HB B0 c0 c1 t0 hlt0
      generalize wr.alloc (.cells #[.slice x.A x.r.labels.length x.c, .bool x.r.except] 67) = W1 at RB TR1 HB1 B01 ⊢
      generalize wr.heap.size = rb at RB HBR ⊢
      have HXO := Lib.hid (HOK.out x (List.mem_of_getElem? HX.out))
      go_loopg [29, 8, 10] x.r.labels.length (fun n v29 v8 v10 w' => Hid (∃ (j : Nat) (a : Addrs) (nb : Nat) (om : Option Nat), v29 = .int .i64 j ∧ j ≤ x.r.labels.length ∧ n = x.r.labels.length - j ∧ v8 = .pointer (some ⟨nb, 0, none⟩) ∧ a (x.r.labels.take j) = some (nb, om) ∧ a [] = some (w.heap.size, (a []).bind (·.2)) ∧ Blk w' (w.heap.size + 1) 73 #[.pointer (some ⟨w.heap.size, 0, none⟩), .int .i64 ver] ∧ Blk w' rb 67 #[.slice x.A x.r.labels.length x.c, .bool x.r.except] ∧ Tree w.heap.size w' a (ends ((l.take i).map (·.r)) false) (ends ((l.take i).map (·.r)) true) ∧ Below w.heap.size w w'))
      case atStart => exact ⟨0, a, w.heap.size, _, rfl, Nat.zero_le _, rfl, rfl, by simpa using HAR.out, HAR.out, B01.out, RB.out, TR1.out, HB1.out⟩
      case round =>
        obtain ⟨j, a, nb, om, rfl, hj, hn, rfl, hp, ha, b0, rbk, tr, hb⟩ := hrel.out
        clear hrel RB TR1 HB1 B01 HAR
        have HNJ := Lib.hid hn
        have HP := Lib.hid hp
        have HAR := Lib.hid ha
        have B0 := Lib.hid b0
        have RB := Lib.hid rbk
        have TR := Lib.hid tr
        have HB := Lib.hid hb
        clear hn hp ha b0 rbk tr hb
        by_cases hjl : j < x.r.labels.length
        · obtain ⟨s, hs⟩ : ∃ s, x.r.labels[j]? = some s := ⟨x.r.labels[j]'hjl, List.getElem?_eq_getElem hjl⟩
          obtain ⟨sb, soff, hsA, l0⟩ := str_at (HXO.out.2.2.keep HB.out) hs
          have nk := TR.out.at_.node _ _ _ HP.out
          have k0 := nk.cell 0
          have kf := nk.frozen 0
          have klt := nk.lt
          simp only [List.getElem?_toArray, List.getElem?_cons_zero, List.getElem?_cons_succ] at k0
          have HS := Lib.hid hs
          have HSA := Lib.hid hsA
          have hxc := HXO.out.1
          have htk := take_snoc hs
          have HTK := Lib.hid htk
          clear nk hs htk
          rw [hsA]
          clear hsA
          cases om with
          | none =>
            go_upto_region 11 with fail
            have TR1 := Lib.hid (TR.out.newmap (Nat.le_trans (by simp) HB.out.size) HP.out)
            have HP1 := Lib.hid (upd_at a (x.r.labels.take j) (nb, some wr.heap.size))
            have hkid : upd a (x.r.labels.take j) (nb, some wr.heap.size) (x.r.labels.take j ++ [s]) = none := by rw [upd_ne _ _ (snoc_ne _ _)]; exact TR.out.at_.leaf _ _ HP.out s
            have HAR1 : Hid (upd a (x.r.labels.take j) (nb, some wr.heap.size) [] = some (w.heap.size, (upd a (x.r.labels.take j) (nb, some wr.heap.size) []).bind (·.2))) := Lib.hid (by
              by_cases hj0 : ([] : List ByteArray) = x.r.labels.take j
              · have h1 := HP.out
                rw [← hj0, HAR.out] at h1
                rw [← hj0, upd_at]
                simp only [Option.some.injEq, Prod.mk.injEq] at h1
                simp [h1.1]
              · rw [upd_ne _ _ hj0]
                exact HAR.out)
            have hnb := TR.out.at_.node _ _ _ HP.out
            have RB1 := Lib.hid ((RB.out.alloc (.map #[] 0)).far (p := ⟨nb, 0, none⟩) (fun e => RB.out.ne_ hnb (by decide) e) (.map (some wr.heap.size)))
            have B01 := Lib.hid ((B0.out.alloc (.map #[] 0)).far (p := ⟨nb, 0, none⟩) (fun e => B0.out.ne_ hnb (by decide) e) (.map (some wr.heap.size)))
            have HB1 := Lib.hid ((HB.out.alloc HB.out.size (.map #[] 0)).setCell (p := ⟨nb, 0, none⟩) (TR.out.lo _ _ _ HP.out).1 (.map (some wr.heap.size)))
            have HWS := Lib.hid (HB1.out.size)
            clear hnb k0 kf HAR
            generalize upd a (x.r.labels.take j) (nb, some wr.heap.size) = a1 at TR1 HP1 hkid HAR1
            rw [World.setCell_alloc_past _ _ _ _ klt] at TR1 RB1 B01 HB1 HWS
            generalize hw1 : (wr.setCell ⟨nb, 0, none⟩ (.map (some wr.heap.size))).alloc (.map #[] 0) = w1 at TR1 RB1 B01 HB1 HWS ⊢
            generalize wr.heap.size = mb at TR1 HP1 hw1 ⊢
            clear hw1 klt
            have hk0 : ptrAt a1 (x.r.labels.take j ++ [s]) = .pointer none := by simp [ptrAt, hkid]
            have hlk := TR1.out.at_.look HP1.out s
            rw [hk0] at hlk
            have HKID := Lib.hid hkid
            have nk1 := TR1.out.at_.node _ _ _ HP1.out
            have k1 := nk1.cell 0
            simp only [List.getElem?_toArray, List.getElem?_cons_zero, List.getElem?_cons_succ] at k1
            have HNK1 := Lib.hid nk1
            obtain ⟨kvs, hkv1, hkv2⟩ := TR1.out.at_.kids _ _ _ HP1.out
            have HKV1 := Lib.hid hkv1
            have HKV2 := Lib.hid hkv2
            clear nk1 hk0 hkid hkv1 hkv2
            go_upto_region 13 with (at_mapUpdate; refine wpList_putK (κ := ByteArray) (kf := Value.string) (d := .string) rfl _ _ _ _ rfl Tryd.underlying69 Tryd.underlying9 mb kvs s (.pointer (some ⟨w1.heap.size, 0, none⟩)) rfl rfl rfl ?_ ?_; exact HKV1.out.alloc _; intro w2 hm2 hg2 hz2)
            have tr2 := TR1.out.newkid HWS.out HP1.out HKID.out HKV2.out hm2 hg2
            have hne : some rb ≠ some mb := fun e => by cases e; exact HKV1.out.ne_blk RB1.out rfl
            have hne' : some (w.heap.size + 1) ≠ some mb := fun e => by cases e; exact HKV1.out.ne_blk B01.out rfl
            have hne2 : some nb ≠ some mb := fun e => by cases e; exact HKV1.out.ne_blk HNK1.out rfl
            have RB2 := Lib.hid ((RB1.out.alloc (.cells #[.map none, .bool false, .bool false] 71)).grown hg2 hne)
            have B02 := Lib.hid ((B01.out.alloc (.cells #[.map none, .bool false, .bool false] 71)).grown hg2 hne')
            have nk2 := (HNK1.out.alloc (.cells #[.map none, .bool false, .bool false] 71)).grown hg2 hne2
            have k2 := nk2.cell 0
            simp only [List.getElem?_toArray, List.getElem?_cons_zero, List.getElem?_cons_succ] at k2
            have HB2 := Lib.hid ((HB1.out.alloc HWS.out (.cells #[.map none, .bool false, .bool false] 71)).grown hg2 (by simp; have := HWS.out; omega) (fun k e => by cases e; exact (TR1.out.lo _ _ _ HP1.out).2 _ rfl))
            have hp2 : upd a1 (x.r.labels.take j) (nb, some mb) (x.r.labels.take j) = some (nb, some mb) := upd_at _ _ _
            have hlk2 := tr2.at_.look (p := x.r.labels.take j) (b := nb) (om := some mb) (by rw [upd_ne _ _ (fun e => snoc_ne _ _ e.symm)]; exact HP1.out) s
            rw [show ptrAt (upd a1 (x.r.labels.take j ++ [s]) (w1.heap.size, none)) (x.r.labels.take j ++ [s]) = .pointer (some ⟨w1.heap.size, 0, none⟩) by simp [ptrAt, upd_at]] at hlk2
            have hA2 : upd a1 (x.r.labels.take j ++ [s]) (w1.heap.size, none) [] = some (w.heap.size, (upd a1 (x.r.labels.take j ++ [s]) (w1.heap.size, none) []).bind (·.2)) := by
              rw [upd_ne _ _ (by simp)]
              exact HAR1.out
            have HA2 := Lib.hid hA2
            have TR2 := Lib.hid tr2
            clear tr2 nk2 hA2 hp2 hne hne' hne2 hm2 hg2 hlk
            go_wp2
            rw [← HSA.out]
            go_roundg (x.r.labels.length - (j + 1))
            case measure => have := HNJ.out; omega
            case rel => exact ⟨j + 1, _, _, none, wrap_up _ _ _ hjl hxc HXO.out.2.1, by omega, rfl, rfl, by rw [HTK.out]; exact upd_at _ _ _, HA2.out, B02.out, RB2.out, TR2.out, HB2.out⟩
          | some mb =>
            by_cases hkid : a (x.r.labels.take j ++ [s]) = none
            · go_upto_region 11 with fail
              generalize hw1 : wr = w1 at TR HP RB B0 HB k0 kf klt l0 ⊢
              generalize ha1 : a = a1 at TR HP HAR hkid
              have TR1 := TR
              have HP1 := HP
              have HAR1 := HAR
              have RB1 := RB
              have B01 := B0
              have HB1 := HB
              have HWS := Lib.hid (HB1.out.size)
              clear k0 kf klt
              have hk0 : ptrAt a1 (x.r.labels.take j ++ [s]) = .pointer none := by simp [ptrAt, hkid]
              have hlk := TR1.out.at_.look HP1.out s
              rw [hk0] at hlk
              have HKID := Lib.hid hkid
              have nk1 := TR1.out.at_.node _ _ _ HP1.out
              have k1 := nk1.cell 0
              simp only [List.getElem?_toArray, List.getElem?_cons_zero, List.getElem?_cons_succ] at k1
              have HNK1 := Lib.hid nk1
              obtain ⟨kvs, hkv1, hkv2⟩ := TR1.out.at_.kids _ _ _ HP1.out
              have HKV1 := Lib.hid hkv1
              have HKV2 := Lib.hid hkv2
              clear nk1 hk0 hkid hkv1 hkv2
              go_upto_region 13 with (at_mapUpdate; refine wpList_putK (κ := ByteArray) (kf := Value.string) (d := .string) rfl _ _ _ _ rfl Tryd.underlying69 Tryd.underlying9 mb kvs s (.pointer (some ⟨w1.heap.size, 0, none⟩)) rfl rfl rfl ?_ ?_; exact HKV1.out.alloc _; intro w2 hm2 hg2 hz2)
              have tr2 := TR1.out.newkid HWS.out HP1.out HKID.out HKV2.out hm2 hg2
              have hne : some rb ≠ some mb := fun e => by cases e; exact HKV1.out.ne_blk RB1.out rfl
              have hne' : some (w.heap.size + 1) ≠ some mb := fun e => by cases e; exact HKV1.out.ne_blk B01.out rfl
              have hne2 : some nb ≠ some mb := fun e => by cases e; exact HKV1.out.ne_blk HNK1.out rfl
              have RB2 := Lib.hid ((RB1.out.alloc (.cells #[.map none, .bool false, .bool false] 71)).grown hg2 hne)
              have B02 := Lib.hid ((B01.out.alloc (.cells #[.map none, .bool false, .bool false] 71)).grown hg2 hne')
              have nk2 := (HNK1.out.alloc (.cells #[.map none, .bool false, .bool false] 71)).grown hg2 hne2
              have k2 := nk2.cell 0
              simp only [List.getElem?_toArray, List.getElem?_cons_zero, List.getElem?_cons_succ] at k2
              have HB2 := Lib.hid ((HB1.out.alloc HWS.out (.cells #[.map none, .bool false, .bool false] 71)).grown hg2 (by simp; have := HWS.out; omega) (fun k e => by cases e; exact (TR1.out.lo _ _ _ HP1.out).2 _ rfl))
              have hp2 : upd a1 (x.r.labels.take j) (nb, some mb) (x.r.labels.take j) = some (nb, some mb) := upd_at _ _ _
              have hlk2 := tr2.at_.look (p := x.r.labels.take j) (b := nb) (om := some mb) (by rw [upd_ne _ _ (fun e => snoc_ne _ _ e.symm)]; exact HP1.out) s
              rw [show ptrAt (upd a1 (x.r.labels.take j ++ [s]) (w1.heap.size, none)) (x.r.labels.take j ++ [s]) = .pointer (some ⟨w1.heap.size, 0, none⟩) by simp [ptrAt, upd_at]] at hlk2
              have hA2 : upd a1 (x.r.labels.take j ++ [s]) (w1.heap.size, none) [] = some (w.heap.size, (upd a1 (x.r.labels.take j ++ [s]) (w1.heap.size, none) []).bind (·.2)) := by
                rw [upd_ne _ _ (by simp)]
                exact HAR1.out
              have HA2 := Lib.hid hA2
              have TR2 := Lib.hid tr2
              clear tr2 nk2 hA2 hp2 hne hne' hne2 hm2 hg2 hlk
              go_wp2
              rw [← HSA.out]
              go_roundg (x.r.labels.length - (j + 1))
              case measure => have := HNJ.out; omega
              case rel => exact ⟨j + 1, _, _, none, wrap_up _ _ _ hjl hxc HXO.out.2.1, by omega, rfl, rfl, by rw [HTK.out]; exact upd_at _ _ _, HA2.out, B02.out, RB2.out, TR2.out, HB2.out⟩
            · skip
              have HB1 := HB
              obtain ⟨⟨kb, kom⟩, hkid⟩ : ∃ y, a (x.r.labels.take j ++ [s]) = some y := Option.ne_none_iff_exists'.1 hkid
              have hk0 : ptrAt a (x.r.labels.take j ++ [s]) = .pointer (some ⟨kb, 0, none⟩) := by simp [ptrAt, hkid]
              have hlk := TR.out.at_.look HP.out s
              rw [hk0] at hlk
              have HKID := Lib.hid hkid
              clear hk0 hkid
              go_wp2
              rw [← HSA.out]
              go_roundg (x.r.labels.length - (j + 1))
              case measure => have := HNJ.out; omega
              case rel => exact ⟨j + 1, a, kb, kom, wrap_up _ _ _ hjl hxc HXO.out.2.1, by omega, rfl, rfl, by rw [HTK.out]; exact HKID.out, HAR.out, B0.out, RB.out, TR.out, HB.out⟩
        · have hjj : j = x.r.labels.length := by omega
          subst hjj
          have hp := HP.out
          rw [List.take_length] at hp
          have nk := TR.out.at_.node _ _ _ hp
          have k1 := nk.cell 1
          have k2 := nk.cell 2
          have kf1 := nk.frozen 1
          have kf2 := nk.frozen 2
          have klt := nk.lt
          have r1 := RB.out.cell 1
          have hrne : ¬ rb = nb := RB.out.ne_ nk (by decide)
          have hrne' : ¬ nb = rb := fun e => hrne e.symm
          simp only [List.getElem?_toArray, List.getElem?_cons_zero, List.getElem?_cons_succ] at k1 k2 r1
          have HNK := Lib.hid nk
          have htk := take_snoc HX.out
          have hfin := TR.out.rule' x.r hp
          have HFIN := Lib.hid hfin
          have HP' := Lib.hid hp
          have HTK := Lib.hid htk
          have hbne := B0.out.ne_ nk (by decide)
          have HB0' := Lib.hid (fun u v => (B0.out.far (p := ⟨nb, 1, none⟩) hbne u).far (p := ⟨nb, 2, none⟩) hbne v)
          have HBB := Lib.hid (fun u v => (HB.out.setCell (p := ⟨nb, 1, none⟩) (TR.out.lo _ _ _ hp).1 u).setCell (p := ⟨nb, 2, none⟩) (TR.out.lo _ _ _ hp).1 v)
          clear nk htk hp hfin hbne
          generalize ends ((l.take i).map (·.r)) false x.r.labels = b1 at k1 HFIN
          generalize ends ((l.take i).map (·.r)) true x.r.labels = b2 at k2 HFIN
          generalize x.r.except = b3 at r1 HFIN ⊢
          cases b1 <;> cases b2 <;> cases b3
          all_goals (
            go_wp2
            go_roundg (l.length - (i + 1))
            case measure => have := HN.out; omega
            case rel => exact ⟨i + 1, a, wrap_up _ _ _ hlt hlc hcm, by omega, rfl, HAR.out, HB0'.out _ _, by rw [HTK.out, List.map_append]; exact HFIN.out _ _ rfl rfl, HBB.out _ _⟩)
    · have hil : l.take i = l := List.take_of_length_le (by omega)
      have HL := Lib.hid hil
      clear hil
      go_wp2
      go_ret
      refine ⟨⟨_, rfl, a, ⟨?_, ?_⟩⟩, HB.out⟩
      · have : ptrAt a [] = .pointer (some ⟨w.heap.size, 0, none⟩) := by rw [ptrAt, HAR.out]; rfl
        rw [this]
        exact B0.out
      · have := TR.out.at_
        rw [HL.out] at this
        exact this
end Go.Proofs.YtgljkgkmbfhgiaaDoor
